import Derived.Test.YtnjpceocnldlfaaGreatWkBc
import Derived.Test.YtnjpceocnldlfaaGreatWkBd
import Derived.Test.YtnjpceocnldlfaaGreatWkVal
import Derived.Test.YtnjpceocnldlfaaGreatWkWin
/- timeset: the change at a number or before it; Previous. -/
namespace Go.Proofs.YtnjpceocnldlfaaGreat
open Go.RowKit Wk
namespace Wk
theorem prev_part {h g : Int → Bool} {lo hi k : Int} (hg : ∀ z, lo ≤ z → z ≤ hi → h z = g z) (hp : PrevC g hi (some k)) (hk : lo < k) : PrevC h hi (some k) := by
  obtain ⟨h1, h2, h3⟩ := hp
  refine ⟨h1, ?_, fun z a b => ?_⟩
  · rw [hg (k - 1) (by omega) (by omega), hg k (by omega) h1]; exact h2
  · rw [hg (z - 1) (by omega) (by omega), hg z (by omega) b]; exact h3 z a b
theorem prev_gap {h g : Int → Bool} {lo hi : Int} {r : Option Int} (hg : ∀ z, lo ≤ z → z ≤ hi → h z = g z) (hp : PrevC g hi r) (hk : ∀ k, r = some k → k ≤ lo) : ∀ z, lo < z → z ≤ hi → h (z - 1) = h z := by
  intro z a b
  rw [hg (z - 1) (by omega) (by omega), hg z (by omega) b]
  cases r with
  | none => exact hp z b
  | some k => exact hp.2.2 z (by have := hk k rfl; omega) b
theorem prev_over {h : Int → Bool} {lo y : Int} {r : Option Int} (hle : lo ≤ y) (hc : ∀ z, lo < z → z ≤ y → h (z - 1) = h z) (hp : PrevC h lo r) : PrevC h y r := by
  cases r with
  | none =>
    intro z hz
    by_cases hl : lo < z
    · exact hc z hl hz
    · exact hp z (by omega)
  | some k =>
    obtain ⟨h1, h2, h3⟩ := hp
    refine ⟨by omega, h2, fun z a b => ?_⟩
    by_cases hl : lo < z
    · exact hc z hl b
    · exact h3 z a (by omega)
theorem prev_up {h : Int → Bool} {y : Int} {r : Option Int} (he : h (y - 1) = h y) (hp : PrevC h (y - 1) r) : PrevC h y r :=
  prev_over (by omega) (fun z a b => by rw [show z = y by omega]; exact he) hp
theorem prev_same {h g : Int → Bool} {hi : Int} {r : Option Int} (hg : ∀ z, z ≤ hi → h z = g z) (hp : PrevC g hi r) : PrevC h hi r := by
  cases r with
  | none => intro z hz; rw [hg (z - 1) (by omega), hg z hz]; exact hp z hz
  | some k =>
    obtain ⟨h1, h2, h3⟩ := hp
    refine ⟨h1, ?_, fun z a b => ?_⟩
    · rw [hg (k - 1) (by omega), hg k h1]; exact h2
    · rw [hg (z - 1) (by omega), hg z b]; exact h3 z a b
end Wk

set_option maxRecDepth 100000 in
set_option maxHeartbeats 4000000 in
theorem wbefore_any (s : St) (vl vr vv : Value) (x : Int) (w : World) (h : RdSt w s vl vr vv) (hs : OkS s) (hx1 : -1152921504606846975 ≤ x) (hx2 : x ≤ 1152921504606846976) :
    Calls Tryz.prog 96 #[.agg #[.int .i64 s.lf.1, vl, .int .i64 s.rt.1, vr, .int .i64 s.fr, .int .i64 s.to, vv], .int .i64 x] w (PvPost (hasS s) x w) := by
  have H2 := Lib.hid (fun y W h h1 h2 => cbefore_any s.lf.1 y vl s.lf.2 W h hs.lf h1 h2)
  have H3 := Lib.hid (fun y W h => bbefore_any y vv s.l W h (canon_of_rvB hs.l).1)
  have H4 := Lib.hid (fun y W h h1 h2 => cbefore_any s.rt.1 y vr s.rt.2 W h hs.rt h1 h2)
  have H5 := Lib.hid (fun y W h h1 h2 => wjoint_any s vl vr vv y W h hs h1 h2)
  have hft := hs.ft
  have hf1 := hs.f1
  have ht1 := hs.t1
  have HD := Lib.hid h
  obtain ⟨al, cl, rfl⟩ := h.1.form
  obtain ⟨ar, cr, rfl⟩ := h.2.1.form
  obtain ⟨av, cv, rfl⟩ := h.2.2.form
  clear h hs
  obtain ⟨W, hWe⟩ : ∃ W, w.alloc (.cells #[.int .i64 s.lf.1, .slice al s.lf.2.length cl, .int .i64 s.rt.1, .slice ar s.rt.2.length cr, .int .i64 s.fr, .int .i64 s.to, .slice av s.l.length cv] 82) = W := ⟨_, rfl⟩
  have hB0 : Below w.heap.size w W := by rw [← hWe]; exact (Below.refl _ _).alloc (Nat.le_refl _) _
  have HCC : Hid (∀ V, Below W.heap.size W V → V.cell? ⟨w.heap.size, 0, none⟩ = some (.int .i64 s.lf.1) ∧ V.cell? ⟨w.heap.size, 1, none⟩ = some (.slice al s.lf.2.length cl) ∧ V.cell? ⟨w.heap.size, 2, none⟩ = some (.int .i64 s.rt.1) ∧
      V.cell? ⟨w.heap.size, 3, none⟩ = some (.slice ar s.rt.2.length cr) ∧ V.cell? ⟨w.heap.size, 4, none⟩ = some (.int .i64 s.fr) ∧ V.cell? ⟨w.heap.size, 5, none⟩ = some (.int .i64 s.to) ∧ V.cell? ⟨w.heap.size, 6, none⟩ = some (.slice av s.l.length cv)) := by
    intro V hV
    refine ⟨keepCell hV ?_, keepCell hV ?_, keepCell hV ?_, keepCell hV ?_, keepCell hV ?_, keepCell hV ?_, keepCell hV ?_⟩ <;> (rw [← hWe]; simp [go_sem])
  have HE := Lib.hid hWe
  clear hWe
  have HR := Lib.hid (fun V (hV : Below W.heap.size W V) => keepSt hV (keepSt hB0 HD.out))
  go_enter Tryz.func96, Tryz.ntmps96
  go_wp2_with fail
  rw [HE.out]
  go_loopw [1] (fun u wr => ∃ y : Int, u = .int .i64 y ∧ y ≤ x ∧ -1152921504606846975 ≤ y ∧ y ≤ 1152921504606846976 ∧ Hid (∀ r, PrevC (hasS s) y r → PrevC (hasS s) x r) ∧ Below W.heap.size W wr) (fun u _ => (intOf u - s.fr).toNat)
  case atStart => exact ⟨x, rfl, by omega, hx1, hx2, (fun r h => h), Below.refl _ _⟩
  case round =>
    obtain ⟨y, rfl, hxy, hy1, hy2, HN, hB⟩ := hrel
    obtain ⟨c0, c1, c2, c3, c4, c5, c6⟩ := HCC.out _ hB
    by_cases hyf : y = s.fr
    · subst hyf
      have b1 : (s.fr == s.fr) = true := by simp
      have b2 : decide (s.to < s.fr) = false := by simp; omega
      cases hj : (hasS s (s.fr - 1) != hasS s s.fr) with
      | true =>
        have HY : Hid (PrevC (hasS s) x (some s.fr)) := HN.out _ ⟨by omega, by simpa using hj, fun z h1 h2 => by omega⟩
        have HJ := Lib.hid (fun V h => H5.out s.fr V h (by omega) (by omega))
        rw [hj] at HJ
        clear hj
        go_wp2_with fail
        refine (HJ.out _ (HR.out _ hB)).mono ?_
        rintro e w3 ⟨rfl, hb3⟩
        have hB3 := keepBelow hB hb3
        go_wp2
        go_ret2
        exact ⟨some s.fr, HY.out, rfl, hB0.trans (hB3.mono hB0.size)⟩
      | false =>
        have HNJ : Hid (hasS s (s.fr - 1) = hasS s s.fr) := by unfold Hid; simpa using hj
        have HJ := Lib.hid (fun V h => H5.out s.fr V h (by omega) (by omega))
        rw [hj] at HJ
        clear hj
        go_wp2_with fail
        refine (HJ.out _ (HR.out _ hB)).mono ?_
        rintro e w3 ⟨rfl, hb3⟩
        have hB3 := keepBelow hB hb3
        clear c0 c1 c2 c3 c4 c5 c6 hb3
        obtain ⟨c0, c1, c2, c3, c4, c5, c6⟩ := HCC.out _ hB3
        go_wp2_with fail
        refine (H2.out (s.fr - 1) _ (HR.out _ hB3).1 (by omega) (by omega)).mono ?_
        rintro e w4 ⟨r, hr, rfl, hb4⟩
        have hB4 := keepBelow hB3 hb4
        have HY : Hid (PrevC (hasS s) x r) := HN.out r (prev_up HNJ.out (prev_same (fun z hz => hasS_lf (s := s) (by omega)) hr))
        go_wp2
        go_ret2
        exact ⟨r, HY.out, rfl, hB0.trans (hB4.mono hB0.size)⟩
    · have b1 : (y == s.fr) = false := by simpa using hyf
      by_cases hyt : y = s.to
      · subst hyt
        have b2 : (s.to == s.to) = true := by simp
        have b3 : decide (s.fr < s.to) = true := by simp; omega
        have hlt : s.fr < s.to := by omega
        cases hj : (hasS s (s.to - 1) != hasS s s.to) with
        | true =>
          have HY : Hid (PrevC (hasS s) x (some s.to)) := HN.out _ ⟨by omega, by simpa using hj, fun z h1 h2 => by omega⟩
          have HJ := Lib.hid (fun V h => H5.out s.to V h (by omega) (by omega))
          rw [hj] at HJ
          clear hj
          go_wp2_with fail
          refine (HJ.out _ (HR.out _ hB)).mono ?_
          rintro e w3 ⟨rfl, hb3⟩
          have hB3 := keepBelow hB hb3
          go_wp2
          go_ret2
          exact ⟨some s.to, HY.out, rfl, hB0.trans (hB3.mono hB0.size)⟩
        | false =>
          have HNJ : Hid (hasS s (s.to - 1) = hasS s s.to) := by unfold Hid; simpa using hj
          have HJ := Lib.hid (fun V h => H5.out s.to V h (by omega) (by omega))
          rw [hj] at HJ
          clear hj
          go_wp2_with fail
          refine (HJ.out _ (HR.out _ hB)).mono ?_
          rintro e w3 ⟨rfl, hb3⟩
          have hB3 := keepBelow hB hb3
          clear c0 c1 c2 c3 c4 c5 c6 hb3
          obtain ⟨c0, c1, c2, c3, c4, c5, c6⟩ := HCC.out _ hB3
          go_wp2_with fail
          refine (H3.out (s.to - 1) _ (HR.out _ hB3).2.2).mono ?_
          rintro e w4 ⟨r, hr, rfl, hb4⟩
          have hB4 := keepBelow hB3 hb4
          have HX := Lib.hid hr
          have HG := Lib.hid (fun z (h1 : s.fr ≤ z) (h2 : z ≤ s.to - 1) => hasS_mid (s := s) (x := z) h1 (by omega))
          clear hr hb4 c0 c1 c2 c3 c4 c5 c6
          obtain ⟨c0, c1, c2, c3, c4, c5, c6⟩ := HCC.out _ hB4
          have HOV : Hid ((∀ k, r = some k → k ≤ s.fr) → ∀ q, PrevC (hasS s) s.fr q → PrevC (hasS s) x q) := fun hk q hq => HN.out q (prev_up HNJ.out (prev_over (by omega) (prev_gap HG.out HX.out hk) hq))
          cases hr : r with
          | some k =>
            rw [hr] at HX
            have hkl : k ≤ s.to - 1 := HX.out.1
            by_cases hk : s.fr < k
            · have HY : Hid (PrevC (hasS s) x (some k)) := HN.out _ (prev_up HNJ.out (prev_part HG.out HX.out hk))
              have g1 : decide (s.fr < k) = true := by simpa using hk
              have g2 : decide (k < s.to) = true := by simp; omega
              clear hr
              go_wp2
              go_ret2
              exact ⟨some k, HY.out, rfl, hB0.trans (hB4.mono hB0.size)⟩
            · have HC := Lib.hid (HOV.out (fun k' e => by rw [hr] at e; cases e; omega))
              have g1 : decide (s.fr < k) = false := by simpa using hk
              clear hr HOV
              go_wp2
              go_roundw
              case rel => exact ⟨s.fr, rfl, by omega, by omega, by omega, HC.out, hB4⟩
              case measure => simp [intOf]; omega
          | none =>
            have HC := Lib.hid (HOV.out (fun k' e => by rw [hr] at e; cases e))
            clear hr HOV
            go_wp2
            go_roundw
            case rel => exact ⟨s.fr, rfl, by omega, by omega, by omega, HC.out, hB4⟩
            case measure => simp [intOf]; omega
      · have b2 : (y == s.to) = false := by simpa using hyt
        by_cases hy3 : s.to < y
        · have b3 : decide (s.to < y) = true := by simpa using hy3
          go_wp2_with fail
          refine (H4.out y _ (HR.out _ hB).2.1 (by omega) (by omega)).mono ?_
          rintro e w4 ⟨r, hr, rfl, hb4⟩
          have hB4 := keepBelow hB hb4
          have HX := Lib.hid hr
          have HG := Lib.hid (fun z (h1 : s.to ≤ z) (_ : z ≤ y) => hasS_rt (s := s) (x := z) hft h1)
          clear hr hb4 c0 c1 c2 c3 c4 c5 c6
          obtain ⟨c0, c1, c2, c3, c4, c5, c6⟩ := HCC.out _ hB4
          have HOV : Hid ((∀ k, r = some k → k ≤ s.to) → ∀ q, PrevC (hasS s) s.to q → PrevC (hasS s) x q) := fun hk q hq => HN.out q (prev_over (by omega) (prev_gap HG.out HX.out hk) hq)
          cases hr : r with
          | some k =>
            rw [hr] at HX
            by_cases hk : s.to < k
            · have HY : Hid (PrevC (hasS s) x (some k)) := HN.out _ (prev_part HG.out HX.out hk)
              have g1 : decide (s.to < k) = true := by simpa using hk
              clear hr
              go_wp2
              go_ret2
              exact ⟨some k, HY.out, rfl, hB0.trans (hB4.mono hB0.size)⟩
            · have HC := Lib.hid (HOV.out (fun k' e => by rw [hr] at e; cases e; omega))
              have g1 : decide (s.to < k) = false := by simpa using hk
              clear hr HOV
              go_wp2
              go_roundw
              case rel => exact ⟨s.to, rfl, by omega, by omega, by omega, HC.out, hB4⟩
              case measure => simp [intOf]; omega
          | none =>
            have HC := Lib.hid (HOV.out (fun k' e => by rw [hr] at e; cases e))
            clear hr HOV
            go_wp2
            go_roundw
            case rel => exact ⟨s.to, rfl, by omega, by omega, by omega, HC.out, hB4⟩
            case measure => simp [intOf]; omega
        · have b3 : decide (s.to < y) = false := by simpa using hy3
          by_cases hy4 : s.fr < y
          · have b4 : decide (s.fr < y) = true := by simpa using hy4
            go_wp2_with fail
            refine (H3.out (y) _ (HR.out _ hB).2.2).mono ?_
            rintro e w4 ⟨r, hr, rfl, hb4⟩
            have hB4 := keepBelow hB hb4
            have HX := Lib.hid hr
            have HG := Lib.hid (fun z (h1 : s.fr ≤ z) (h2 : z ≤ y) => hasS_mid (s := s) (x := z) h1 (by omega))
            clear hr hb4 c0 c1 c2 c3 c4 c5 c6
            obtain ⟨c0, c1, c2, c3, c4, c5, c6⟩ := HCC.out _ hB4
            have HOV : Hid ((∀ k, r = some k → k ≤ s.fr) → ∀ q, PrevC (hasS s) s.fr q → PrevC (hasS s) x q) := fun hk q hq => HN.out q (prev_over (by omega) (prev_gap HG.out HX.out hk) hq)
            cases hr : r with
            | some k =>
              rw [hr] at HX
              have hkl : k ≤ y := HX.out.1
              by_cases hk : s.fr < k
              · have HY : Hid (PrevC (hasS s) x (some k)) := HN.out _ ((prev_part HG.out HX.out hk))
                have g1 : decide (s.fr < k) = true := by simpa using hk
                have g2 : decide (k < s.to) = true := by simp; omega
                clear hr
                go_wp2
                go_ret2
                exact ⟨some k, HY.out, rfl, hB0.trans (hB4.mono hB0.size)⟩
              · have HC := Lib.hid (HOV.out (fun k' e => by rw [hr] at e; cases e; omega))
                have g1 : decide (s.fr < k) = false := by simpa using hk
                clear hr HOV
                go_wp2
                go_roundw
                case rel => exact ⟨s.fr, rfl, by omega, by omega, by omega, HC.out, hB4⟩
                case measure => simp [intOf]; omega
            | none =>
              have HC := Lib.hid (HOV.out (fun k' e => by rw [hr] at e; cases e))
              clear hr HOV
              go_wp2
              go_roundw
              case rel => exact ⟨s.fr, rfl, by omega, by omega, by omega, HC.out, hB4⟩
              case measure => simp [intOf]; omega
          · have b4 : decide (s.fr < y) = false := by simpa using hy4
            go_wp2_with fail
            refine (H2.out (y) _ (HR.out _ hB).1 (by omega) (by omega)).mono ?_
            rintro e w4 ⟨r, hr, rfl, hb4⟩
            have hB4 := keepBelow hB hb4
            have HY : Hid (PrevC (hasS s) x r) := HN.out r (prev_same (fun z hz => hasS_lf (s := s) (by omega)) hr)
            go_wp2
            go_ret2
            exact ⟨r, HY.out, rfl, hB0.trans (hB4.mono hB0.size)⟩
end Go.Proofs.YtnjpceocnldlfaaGreat
