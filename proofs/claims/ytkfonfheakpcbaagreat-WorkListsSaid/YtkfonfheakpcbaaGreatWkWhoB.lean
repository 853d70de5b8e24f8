import Derived.Test.YtkfonfheakpcbaaGreatWkWho
/- timeset: the next change of a set. -/
namespace Go.Proofs.YtkfonfheakpcbaaGreat
open Go.RowKit Wk

set_option maxRecDepth 100000 in
set_option maxHeartbeats 4000000 in
theorem wafter_any (s : St) (vl vr vv : Value) (x : Int) (w : World) (h : RdSt w s vl vr vv) (hs : OkS s) (hx1 : -1152921504606846976 ≤ x) (hx2 : x ≤ 1152921504606846976) :
    Calls Tryz.prog 86 #[.agg #[.int .i64 s.lf.1, vl, .int .i64 s.rt.1, vr, .int .i64 s.fr, .int .i64 s.to, vv], .int .i64 x] w (NxPost (hasS s) x w) := by
  have H1 := Lib.hid (fun y W h => wpart_any s vl vr vv y W h)
  have H2 := Lib.hid (fun y W h h1 h2 => cafter_any s.lf.1 y vl s.lf.2 W h hs.lf h1 h2)
  have H3 := Lib.hid (fun y W h => bafter_any y vv s.l W h (canon_of_rvB hs.l).1)
  have H4 := Lib.hid (fun y W h h1 h2 => cafter_any s.rt.1 y vr s.rt.2 W h hs.rt h1 h2)
  have H5 := Lib.hid (fun y W h h1 h2 => wjoint_any s vl vr vv y W h hs h1 h2)
  have hft := hs.ft
  have hf1 := hs.f1
  have ht1 := hs.t1
  have HD := Lib.hid h
  obtain ⟨al, cl, rfl⟩ := h.1.form
  obtain ⟨ar, cr, rfl⟩ := h.2.1.form
  obtain ⟨av, cv, rfl⟩ := h.2.2.form
  clear h hs
  obtain ⟨W, hWe⟩ : ∃ W, w.alloc (.cells #[.int .i64 s.lf.1, .slice al s.lf.2.length cl, .int .i64 s.rt.1, .slice ar s.rt.2.length cr, .int .i64 s.fr, .int .i64 s.to, .slice av s.l.length cv] 73) = W := ⟨_, rfl⟩
  have hB0 : Below w.heap.size w W := by rw [← hWe]; exact (Below.refl _ _).alloc (Nat.le_refl _) _
  have HCC : Hid (∀ V, Below W.heap.size W V → V.cell? ⟨w.heap.size, 0, none⟩ = some (.int .i64 s.lf.1) ∧ V.cell? ⟨w.heap.size, 1, none⟩ = some (.slice al s.lf.2.length cl) ∧ V.cell? ⟨w.heap.size, 2, none⟩ = some (.int .i64 s.rt.1) ∧
      V.cell? ⟨w.heap.size, 3, none⟩ = some (.slice ar s.rt.2.length cr) ∧ V.cell? ⟨w.heap.size, 4, none⟩ = some (.int .i64 s.fr) ∧ V.cell? ⟨w.heap.size, 5, none⟩ = some (.int .i64 s.to) ∧ V.cell? ⟨w.heap.size, 6, none⟩ = some (.slice av s.l.length cv)) := by
    intro V hV
    refine ⟨keepCell hV ?_, keepCell hV ?_, keepCell hV ?_, keepCell hV ?_, keepCell hV ?_, keepCell hV ?_, keepCell hV ?_⟩ <;> (rw [← hWe]; simp [go_sem])
  have HE := Lib.hid hWe
  clear hWe
  have HR := Lib.hid (fun V (hV : Below W.heap.size W V) => keepSt hV (keepSt hB0 HD.out))
  have q1 := m_cafter
  have q2 := m_bafter
  go_enter Tryz.func86, Tryz.ntmps86
  go_wp2_with fail
  rw [HE.out]
  go_loopw [1] (fun u wr => ∃ y : Int, u = .int .i64 y ∧ x ≤ y ∧ -1152921504606846976 ≤ y ∧ y ≤ 1152921504606846976 ∧ Hid (∀ r, NextC (hasS s) y r → NextC (hasS s) x r) ∧ Below W.heap.size W wr) (fun u _ => (s.to - intOf u).toNat)
  case atStart => exact ⟨x, rfl, by omega, hx1, hx2, (fun r h => h), Below.refl _ _⟩
  case round =>
    obtain ⟨y, rfl, hxy, hy1, hy2, HN, hB⟩ := hrel
    obtain ⟨c0, c1, c2, c3, c4, c5, c6⟩ := HCC.out _ hB
    go_wp2_with fail
    refine (H1.out y _ (HR.out _ hB)).mono ?_
    rintro e w1 ⟨rfl, hb1⟩
    have hB1 := keepBelow hB hb1
    clear c0 c1 c2 c3 c4 c5 c6 hb1
    unfold partV
    by_cases h1 : y < s.fr
    · rw [if_pos h1]
      have HG := Lib.hid (fun z (_ : y ≤ z) (h2 : z < s.fr) => hasS_lf (s := s) h2)
      go_wp2_with fail
      refine (H2.out y _ (HR.out _ hB1).1 hy1 hy2).mono ?_
      rintro e w2 ⟨r, hr, rfl, hb2⟩
      have hB2 := keepBelow hB1 hb2
      have HX := Lib.hid hr
      clear hr hb2
      obtain ⟨c0, c1, c2, c3, c4, c5, c6⟩ := HCC.out _ hB2
      have HCP : Hid ((∀ k, r = some k → s.fr ≤ k) → ∀ z, y < z → z < s.fr → hasS s (z - 1) = hasS s z) := fun hk => const_part HG.out HX.out hk
      cases hr : r with
      | some k =>
        rw [hr] at HX
        by_cases hk : k < s.fr
        · have HY : Hid (NextC (hasS s) x (some k)) := HN.out _ (next_part HG.out HX.out hk)
          clear hr
          have g1 : decide (k < s.fr) = true := by simpa using hk
          go_wp2
          go_ret2
          exact ⟨some k, HY.out, rfl, hB0.trans (hB2.mono hB0.size)⟩
        · have HC := Lib.hid (HCP.out (fun k' e => by rw [hr] at e; cases e; omega))
          clear hr HCP
          have g1 : decide (k < s.fr) = false := by simpa using hk
          cases hj : (hasS s (s.fr - 1) != hasS s s.fr) with
          | true =>
            have HY : Hid (NextC (hasS s) x (some s.fr)) := HN.out _ (next_edge (by omega) HC.out (by simpa using hj))
            have HJ := Lib.hid (fun V h => H5.out s.fr V h (by omega) (by omega))
            rw [hj] at HJ
            clear hj
            go_wp2_with fail
            refine (HJ.out _ (HR.out _ hB2)).mono ?_
            rintro e w3 ⟨rfl, hb3⟩
            have hB3 := keepBelow hB2 hb3
            go_wp2
            go_ret2
            exact ⟨some s.fr, HY.out, rfl, hB0.trans (hB3.mono hB0.size)⟩
          | false =>
            have HY : Hid (∀ r, NextC (hasS s) s.fr r → NextC (hasS s) x r) := fun r h => HN.out r (next_over (by omega) HC.out (by simpa using hj) h)
            have HJ := Lib.hid (fun V h => H5.out s.fr V h (by omega) (by omega))
            rw [hj] at HJ
            clear hj
            go_wp2_with fail
            refine (HJ.out _ (HR.out _ hB2)).mono ?_
            rintro e w3 ⟨rfl, hb3⟩
            have hB3 := keepBelow hB2 hb3
            go_wp2
            go_roundw
            case rel => exact ⟨s.fr, rfl, by omega, by omega, by omega, HY.out, hB3⟩
            case measure => simp [intOf]; omega
      | none =>
        have HC := Lib.hid (HCP.out (fun k' e => by rw [hr] at e; cases e))
        clear hr HCP
        cases hj : (hasS s (s.fr - 1) != hasS s s.fr) with
        | true =>
          have HY : Hid (NextC (hasS s) x (some s.fr)) := HN.out _ (next_edge (by omega) HC.out (by simpa using hj))
          have HJ := Lib.hid (fun V h => H5.out s.fr V h (by omega) (by omega))
          rw [hj] at HJ
          clear hj
          go_wp2_with fail
          refine (HJ.out _ (HR.out _ hB2)).mono ?_
          rintro e w3 ⟨rfl, hb3⟩
          have hB3 := keepBelow hB2 hb3
          go_wp2
          go_ret2
          exact ⟨some s.fr, HY.out, rfl, hB0.trans (hB3.mono hB0.size)⟩
        | false =>
          have HY : Hid (∀ r, NextC (hasS s) s.fr r → NextC (hasS s) x r) := fun r h => HN.out r (next_over (by omega) HC.out (by simpa using hj) h)
          have HJ := Lib.hid (fun V h => H5.out s.fr V h (by omega) (by omega))
          rw [hj] at HJ
          clear hj
          go_wp2_with fail
          refine (HJ.out _ (HR.out _ hB2)).mono ?_
          rintro e w3 ⟨rfl, hb3⟩
          have hB3 := keepBelow hB2 hb3
          go_wp2
          go_roundw
          case rel => exact ⟨s.fr, rfl, by omega, by omega, by omega, HY.out, hB3⟩
          case measure => simp [intOf]; omega
    · rw [if_neg h1]
      by_cases h2 : y < s.to
      · rw [if_pos h2]
        have HG := Lib.hid (fun z (h3 : y ≤ z) (h4 : z < s.to) => hasS_mid (s := s) (by omega) h4)
        go_wp2_with fail
        refine (H3.out y _ (HR.out _ hB1).2.2).mono ?_
        rintro e w2 ⟨r, hr, rfl, hb2⟩
        have hB2 := keepBelow hB1 hb2
        have HX := Lib.hid hr
        clear hr hb2
        obtain ⟨c0, c1, c2, c3, c4, c5, c6⟩ := HCC.out _ hB2
        have HCP : Hid ((∀ k, r = some k → s.to ≤ k) → ∀ z, y < z → z < s.to → hasS s (z - 1) = hasS s z) := fun hk => const_part HG.out HX.out hk
        cases hr : r with
        | some k =>
          rw [hr] at HX
          by_cases hk : k < s.to
          · have HY : Hid (NextC (hasS s) x (some k)) := HN.out _ (next_part HG.out HX.out hk)
            clear hr
            have g1 : decide (k < s.to) = true := by simpa using hk
            go_wp2
            go_ret2
            exact ⟨some k, HY.out, rfl, hB0.trans (hB2.mono hB0.size)⟩
          · have HC := Lib.hid (HCP.out (fun k' e => by rw [hr] at e; cases e; omega))
            clear hr HCP
            have g1 : decide (k < s.to) = false := by simpa using hk
            cases hj : (hasS s (s.to - 1) != hasS s s.to) with
            | true =>
              have HY : Hid (NextC (hasS s) x (some s.to)) := HN.out _ (next_edge (by omega) HC.out (by simpa using hj))
              have HJ := Lib.hid (fun V h => H5.out s.to V h (by omega) (by omega))
              rw [hj] at HJ
              clear hj
              go_wp2_with fail
              refine (HJ.out _ (HR.out _ hB2)).mono ?_
              rintro e w3 ⟨rfl, hb3⟩
              have hB3 := keepBelow hB2 hb3
              go_wp2
              go_ret2
              exact ⟨some s.to, HY.out, rfl, hB0.trans (hB3.mono hB0.size)⟩
            | false =>
              have HY : Hid (∀ r, NextC (hasS s) s.to r → NextC (hasS s) x r) := fun r h => HN.out r (next_over (by omega) HC.out (by simpa using hj) h)
              have HJ := Lib.hid (fun V h => H5.out s.to V h (by omega) (by omega))
              rw [hj] at HJ
              clear hj
              go_wp2_with fail
              refine (HJ.out _ (HR.out _ hB2)).mono ?_
              rintro e w3 ⟨rfl, hb3⟩
              have hB3 := keepBelow hB2 hb3
              go_wp2
              go_roundw
              case rel => exact ⟨s.to, rfl, by omega, by omega, by omega, HY.out, hB3⟩
              case measure => simp [intOf]; omega
        | none =>
          have HC := Lib.hid (HCP.out (fun k' e => by rw [hr] at e; cases e))
          clear hr HCP
          cases hj : (hasS s (s.to - 1) != hasS s s.to) with
          | true =>
            have HY : Hid (NextC (hasS s) x (some s.to)) := HN.out _ (next_edge (by omega) HC.out (by simpa using hj))
            have HJ := Lib.hid (fun V h => H5.out s.to V h (by omega) (by omega))
            rw [hj] at HJ
            clear hj
            go_wp2_with fail
            refine (HJ.out _ (HR.out _ hB2)).mono ?_
            rintro e w3 ⟨rfl, hb3⟩
            have hB3 := keepBelow hB2 hb3
            go_wp2
            go_ret2
            exact ⟨some s.to, HY.out, rfl, hB0.trans (hB3.mono hB0.size)⟩
          | false =>
            have HY : Hid (∀ r, NextC (hasS s) s.to r → NextC (hasS s) x r) := fun r h => HN.out r (next_over (by omega) HC.out (by simpa using hj) h)
            have HJ := Lib.hid (fun V h => H5.out s.to V h (by omega) (by omega))
            rw [hj] at HJ
            clear hj
            go_wp2_with fail
            refine (HJ.out _ (HR.out _ hB2)).mono ?_
            rintro e w3 ⟨rfl, hb3⟩
            have hB3 := keepBelow hB2 hb3
            go_wp2
            go_roundw
            case rel => exact ⟨s.to, rfl, by omega, by omega, by omega, HY.out, hB3⟩
            case measure => simp [intOf]; omega
      · rw [if_neg h2]
        go_wp2_with fail
        refine (H4.out y _ (HR.out _ hB1).2.1 hy1 hy2).mono ?_
        rintro e w2 ⟨r, hr, rfl, hb2⟩
        have hB2 := keepBelow hB1 hb2
        have HY : Hid (NextC (hasS s) x r) := HN.out r (by
          have hh : ∀ z, y ≤ z → hasS s z = hasP s.rt z := fun z hz => hasS_rt hft (by omega)
          cases r with
          | none => intro z hz; rw [hh (z - 1) (by omega), hh z (by omega)]; exact hr z hz
          | some k =>
            obtain ⟨k1, k2, k3⟩ := hr
            refine ⟨k1, ?_, ?_⟩
            · rw [hh (k - 1) (by omega), hh k (by omega)]; exact k2
            · intro z z1 z2; rw [hh (z - 1) (by omega), hh z (by omega)]; exact k3 z z1 z2)
        clear hr hb2
        obtain ⟨c0, c1, c2, c3, c4, c5, c6⟩ := HCC.out _ hB2
        go_wp2
        go_ret2
        exact ⟨r, HY.out, rfl, hB0.trans (hB2.mono hB0.size)⟩
end Go.Proofs.YtkfonfheakpcbaaGreat
