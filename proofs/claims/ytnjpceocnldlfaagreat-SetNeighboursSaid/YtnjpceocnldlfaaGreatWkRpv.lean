import Derived.Test.YtnjpceocnldlfaaGreatWkRfE
import Derived.Test.YtnjpceocnldlfaaGreatWkTpv
/- The reference's Previous of a set. -/
namespace Go.Proofs.YtnjpceocnldlfaaGreat
open Go.RowKit Wk
namespace Wk
theorem prev_ex (h : Int → Bool) (x : Int) : ∃ q, PrevC h x q := by
  by_cases hz : ∃ z, z ≤ x ∧ h (z - 1) ≠ h z
  · obtain ⟨z, h1, h2⟩ := hz
    obtain ⟨j, h3, h4⟩ := least_ex (fun q => h (x + 1 - q - 1) ≠ h (x + 1 - q)) (x + 1 - z).toNat ⟨x + 1 - z, by omega, by omega, by rw [show x + 1 - (x + 1 - z) = z by omega]; exact h2⟩
    refine ⟨some (x + 1 - ((j : Int) + 1)), by omega, h4, fun u h5 h6 => ?_⟩
    have := h3 (x + 1 - u) (by omega) (by omega)
    rw [show x + 1 - (x + 1 - u) = u by omega] at this
    exact Classical.not_not.1 this
  · refine ⟨none, fun z h1 => ?_⟩
    exact Classical.not_not.1 fun h2 => hz ⟨z, h1, h2⟩
theorem prev14_gap {s : St} (hg : GoodS s) {x n c1 c2 : Int} {b1 b2 : Bool} (h1 : NoB s.lf.1 s.lf.2 (min (x + 1) s.fr) b1 c1) (h2 : NoB s.rt.1 s.rt.2 (x + 1) b2 c2) (n1 : b1 = true → c1 ≤ n) (n2 : b2 = true → s.to < c2 → c2 ≤ n)
    (n3 : s.fr ≤ x → s.fr ≤ n) (n4 : s.to ≤ x → s.to ≤ n) (n5 : ∀ e ∈ endsOf s.l, e ≤ x → e ≤ n) : ∀ z, n < z → z ≤ x → hasS s (z - 1) = hasS s z := by
  intro z hz1 hz2
  have hft := hg.ft
  by_cases a1 : z < s.fr
  · rw [has_lf (s := s) (x := z - 1) (by omega), has_lf a1]
    exact h1.2 z (by omega) fun hb => by have := n1 hb; omega
  · by_cases a2 : z = s.fr
    · subst a2
      have := n3 hz2
      omega
    · by_cases a3 : z < s.to
      · rw [has_mid (s := s) (x := z - 1) (by omega) (by omega), has_mid (by omega) a3]
        refine Classical.not_not.1 fun hne => ?_
        obtain ⟨u, hu, he⟩ := (edge_iff z hg.canon).1 hne
        have := n5 z (endsOf_mem.2 ⟨u, hu, he⟩) hz2
        omega
      · by_cases a4 : z = s.to
        · subst a4
          have := n4 hz2
          omega
        · rw [has_rt (s := s) (x := z - 1) hft (by omega), has_rt hft (by omega)]
          refine h2.2 z (by omega) fun hb => ?_
          by_cases hc : s.to < c2
          · have := n2 hb hc; omega
          · omega
/-- nothing back to n when x is not in and nothing changes between -/
theorem prev_none {h : Int → Bool} {x n : Int} (hn : n ≤ x) (hx : h x = false) (hc : ∀ z, n < z → z ≤ x → h (z - 1) = h z) : ∀ z, n ≤ z → z ≤ x → h z = false := by
  have K : ∀ k : Nat, n ≤ x - k → h (x - k) = false := by
    intro k
    induction k with
    | zero => intro _; simpa using hx
    | succ k ih =>
      intro hk
      have h1 := ih (by omega)
      have h2 := hc (x - k) (by omega) (by omega)
      rw [show x - ((k + 1 : Nat) : Int) = x - (k : Int) - 1 by omega, h2, h1]
  intro z h1 h2
  have := K (x - z).toNat (by omega)
  rwa [show x - ((x - z).toNat : Int) = z by omega] at this
end Wk
theorem pvSpec_uniq {b : Bool} {s : St} {x : Int} {r r' : Option Int} (h1 : PvSpec b s x r) (h2 : PvSpec b s x r') : r = r' := by
  have U : ∀ {q q' : Option Int}, PrevC (hasS s) x q → PrevC (hasS s) x q' → q = q' := by
    intro q q' a a'
    cases q with
    | none =>
      cases q' with
      | none => rfl
      | some y' => exact absurd (a y' a'.1) a'.2.1
    | some y =>
      cases q' with
      | none => exact absurd (a' y a.1) a.2.1
      | some y' =>
        rcases Int.lt_trichotomy y y' with g | g | g
        · exact absurd (a.2.2 y' g a'.1) a'.2.1
        · rw [g]
        · exact absurd (a'.2.2 y g a.1) a.2.1
  unfold PvSpec at h1 h2
  split at h1
  · rename_i hc; rw [if_pos hc] at h2; rw [h1, h2]
  · rename_i hc
    rw [if_neg hc] at h2
    split at h1
    · rename_i hd; rw [if_pos hd] at h2; rw [h1, h2]
    · rename_i hd
      rw [if_neg hd] at h2
      obtain ⟨q, a, rfl⟩ := h1
      obtain ⟨q', a', rfl⟩ := h2
      rw [U a a']

set_option maxRecDepth 100000 in
set_option maxHeartbeats 8000000 in
theorem previous14_any (s : St) (vl vr vv : Value) (x0 : Int) (w : World) (h : RdSt w s vl vr vv) (hs : OkS s) :
    Calls Tryz.prog 46 #[.agg #[.int .i64 s.lf.1, vl, .int .i64 s.rt.1, vr, .int .i64 s.fr, .int .i64 s.to, vv], .int .i64 x0] w (OpPost (PvSpec true s x0) w) := by
  have HOK := Lib.hid hs
  obtain ⟨hrl, hP1, hP2, _⟩ := rvB_of_pvB hs.lf
  obtain ⟨hrr, hQ1, hQ2, _⟩ := rvB_of_pvB hs.rt
  have hll := (canon_of_rvB hrl).2.2
  have hlr := (canon_of_rvB hrr).2.2
  have hGL := goodP_of_pvB hs.lf
  have hGR := goodP_of_pvB hs.rt
  have C0 := Lib.hid (fun W => line10_any x0 W)
  have C1 : Hid (∀ x W, RdS W vl s.lf.2 → -1152921504606846976 ≤ x → x ≤ 1152921504606846976 → Calls Tryz.prog 97 #[.agg #[.int .i64 s.lf.1, vl], .int .i64 x] W (BfPost s.lf.1 s.lf.2 x W)) := fun x W hr h1 h2 => before14_any s.lf.1 x vl s.lf.2 W hr hGL hP2 hll h1 h2
  have C2 : Hid (∀ x W, RdS W vr s.rt.2 → -1152921504606846976 ≤ x → x ≤ 1152921504606846976 → Calls Tryz.prog 97 #[.agg #[.int .i64 s.rt.1, vr], .int .i64 x] W (BfPost s.rt.1 s.rt.2 x W)) := fun x W hr h1 h2 => before14_any s.rt.1 x vr s.rt.2 W hr hGR hQ2 hlr h1 h2
  have C3 : Hid (∀ x W, RdSt W s vl vr vv → -1152921504606846976 ≤ x → x ≤ 1152921504606846976 → Calls Tryz.prog 22 #[.agg #[.int .i64 s.lf.1, vl, .int .i64 s.rt.1, vr, .int .i64 s.fr, .int .i64 s.to, vv], .int .i64 x] W fun e w' => e = .returned (.bool (hasS s x)) ∧ Below W.heap.size W w') := fun x W hr h1 h2 => has14_any s vl vr vv x W hr hs h1 h2
  have hft := hs.ft
  have hf1 := hs.f1
  have ht1 := hs.t1
  clear hrl hrr hGL hGR hs
  have HR0 := Lib.hid h
  obtain ⟨a1, n1, rfl⟩ := h.1.form
  obtain ⟨a2, n2, rfl⟩ := h.2.1.form
  obtain ⟨a3, n3, rfl⟩ := h.2.2.form
  clear h
  obtain ⟨W, hWe⟩ : ∃ W, w.alloc (.cells #[.int .i64 s.lf.1, .slice a1 s.lf.2.length n1, .int .i64 s.rt.1, .slice a2 s.rt.2.length n2, .int .i64 s.fr, .int .i64 s.to, .slice a3 s.l.length n3] 26) = W := ⟨_, rfl⟩
  have hW : Below w.heap.size w W := by rw [← hWe]; exact (Below.refl _ w).alloc (Nat.le_refl _) _
  have HX : Hid (Set7 W w.heap.size (.int .i64 s.lf.1) (.slice a1 s.lf.2.length n1) (.int .i64 s.rt.1) (.slice a2 s.rt.2.length n2) (.int .i64 s.fr) (.int .i64 s.to) (.slice a3 s.l.length n3)) := by
    rw [← hWe]
    refine ⟨⟨?_, ?_, ?_, ?_, ?_, ?_, ?_⟩, ?_, ?_, ?_, ?_, ?_, ?_, ?_⟩ <;> simp [go_sem]
  have HR := Lib.hid (keepSt hW HR0.out)
  have HE := Lib.hid hWe
  clear hWe
  have HRV := Lib.hid HR0.out.2.2
  obtain ⟨hl3, hc3⟩ : s.l.length ≤ 8796093022208 ∧ ∀ i, i < s.l.length → ∃ b o, a3 = some ⟨b, o, none⟩ ∧ w.cell? ⟨b, o + i * 2, none⟩ = some (.int .i64 (s.l.getD i (0, 0)).1) ∧ w.cell? ⟨b, o + i * 2 + 1, none⟩ = some (.int .i64 (s.l.getD i (0, 0)).2) := by
    obtain ⟨p, c, e, h1, h2⟩ := HRV.out
    cases e
    exact ⟨h1, h2⟩
  have HC := Lib.hid hc3
  clear hc3
  cases hlx : lineB x0 with
  | false =>
    rw [hlx] at C0
    have HLX := Lib.hid hlx
    clear hlx
    obtain ⟨⟨B0, B1, B2, B3, B4, B5, B6⟩, _⟩ := HX.out
    go_enter Tryz.func46, Tryz.ntmps46
    go_wp2_with fail
    rw [HE.out]
    go_wp2_with fail
    refine (C0.out _).mono ?_
    rintro e w1 ⟨rfl, rfl⟩
    go_wp2
    go_ret2
    exact ⟨none, by unfold PvSpec; rw [if_pos (.inl HLX.out)], rfl, hW⟩
  | true =>
  rw [hlx] at C0
  have hlb := (lineB_iff x0).1 hlx
  have HLX := Lib.hid hlx
  clear hlx
  obtain ⟨⟨B0, B1, B2, B3, B4, B5, B6⟩, _⟩ := HX.out
  go_enter Tryz.func46, Tryz.ntmps46
  go_wp2_with fail
  rw [HE.out]
  go_wp2_with fail
  refine (C0.out _).mono ?_
  rintro e w1 ⟨rfl, rfl⟩
  go_wp2_with fail
  go_loopw [1] (fun ux wr => ∃ x : Int, ux = .int .i64 x ∧ -4398046511104 ≤ x ∧ x ≤ x0 ∧ Hid (∀ z, x < z → z ≤ x0 → hasS s z = false) ∧ Below W.heap.size W wr) (fun ux _ => (intOf ux + 4398046511105).toNat)
  case atStart => exact ⟨x0, rfl, hlb.1, Int.le_refl _, fun z h1 h2 => by omega, Below.refl _ _⟩
  case round =>
    obtain ⟨x, rfl, hx1, hx2, HXX, hB⟩ := hrel
    have hBw := keepBelow hW hB
    have HXr := Lib.hid (HX.out.below hB)
    have HRr := Lib.hid (keepSt hB HR.out)
    clear B0 B1 B2 B3 B4 B5 B6
    obtain ⟨⟨B0, B1, B2, B3, B4, B5, B6⟩, _⟩ := HXr.out
    cases hh : hasS s x with
    | true =>
      have HP : Hid (PvSpec true s x0 (some x)) := by
        unfold Hid PvSpec
        rw [if_neg (by rw [HLX.out]; simp)]
        by_cases hx : x = x0
        · subst hx; rw [if_pos hh]
        · rw [if_neg (by rw [HXX.out x0 (by omega) (Int.le_refl _)]; simp)]
          refine ⟨some (x + 1), ⟨by omega, ?_, fun z h1 h2 => ?_⟩, ?_⟩
          · rw [show x + 1 - 1 = x by omega, hh, HXX.out (x + 1) (by omega) (by omega)]; simp
          · rw [HXX.out z (by omega) h2, HXX.out (z - 1) (by omega) (by omega)]
          · show some x = if x + 1 - 1 < -4398046511104 then none else some (x + 1 - 1)
            rw [if_neg (by omega), show x + 1 - 1 = x by omega]
      have K := Lib.hid (C3.out x)
      rw [hh] at K
      clear hh
      go_wp2_with fail
      refine (K.out _ HRr.out (by omega) (by omega)).mono ?_
      rintro e w2 ⟨rfl, hb2⟩
      have hB2 := keepBelow hBw hb2
      clear B0 B1 B2 B3 B4 B5 B6
      go_wp2
      go_ret2
      exact ⟨some x, HP.out, rfl, hB2⟩
    | false =>
    have K := Lib.hid (C3.out x)
    rw [hh] at K
    have HH := Lib.hid hh
    clear hh
    go_wp2_with fail
    refine (K.out _ HRr.out (by omega) (by omega)).mono ?_
    rintro e w2 ⟨rfl, hb2⟩
    have HXs := Lib.hid (HXr.out.below hb2)
    have HRs := Lib.hid (keepSt hb2 HRr.out)
    have hBs := keepBelow hB hb2
    clear B0 B1 B2 B3 B4 B5 B6 hb2 HXr HRr
    obtain ⟨⟨B0, B1, B2, B3, B4, B5, B6⟩, _⟩ := HXs.out
    have hf1 := HOK.out.f1
    have ht1 := HOK.out.t1
    obtain ⟨M, hM⟩ : ∃ M, min (x + 1) s.fr = M := ⟨_, rfl⟩
    have hMb : M ≤ x + 1 ∧ M ≤ s.fr ∧ -4398046511104 ≤ M := by omega
    have HMM := Lib.hid hM
    have C1' := C1.out
    have K1 := Lib.hid (fun W hr => C1' M W hr (by omega) (by omega))
    clear C1'
    rw [← HMM.out] at K1
    clear hM
    have K1' := K1.out
    go_wp2_with fail
    refine (K1' _ HRs.out.1).mono ?_
    rw [HMM.out]
    clear K1'
    rintro e w3 ⟨c1, b1, rfl, N1, hb3⟩
    have HX2 := Lib.hid (HXs.out.below hb3)
    have HR2 := Lib.hid (keepSt hb3 HRs.out)
    have hB2 := keepBelow hBs hb3
    have HN1 := Lib.hid N1
    have hc1 : b1 = true → M - s.lf.1 ≤ c1 ∧ c1 < M := N1.1
    rw [← HMM.out] at HN1
    clear B0 B1 B2 B3 B4 B5 B6 hb3 N1 HXs HRs
    obtain ⟨⟨B0, B1, B2, B3, B4, B5, B6⟩, _⟩ := HX2.out
    go_upto_if 28 with fail
    go_cut [6] from 13 to 108 (fun u wx => ∃ n : Int, u = .int .i64 n ∧ -4398046511105 ≤ n ∧ n ≤ x ∧ Hid (b1 = true → c1 ≤ n) ∧ Below w3.heap.size w3 wx)
    case first =>
      cases b1 with
      | false =>
        go_wp2_with fail
        go_meet
        case rel => exact ⟨_, rfl, by omega, by omega, (fun hh => by cases hh), Below.refl _ _⟩
      | true =>
        have hcc := hc1 rfl
        go_wp2_with fail
        go_meet
        case rel => exact ⟨_, rfl, by omega, by omega, fun _ => by omega, Below.refl _ _⟩
    case rest =>
    obtain ⟨na, rfl, na1, na2, HNa, hb3⟩ := hcut
    have HX3 := Lib.hid (HX2.out.below hb3)
    have HR3 := Lib.hid (keepSt hb3 HR2.out)
    have hB3 := keepBelow hB2 hb3
    clear B0 B1 B2 B3 B4 B5 B6 hb3 hc1 HX2 HR2
    obtain ⟨⟨B0, B1, B2, B3, B4, B5, B6⟩, _⟩ := HX3.out
    go_wp2_with fail
    refine (C2.out (x + 1) _ HR3.out.2.1 (by omega) (by omega)).mono ?_
    rintro e w4 ⟨c2, b2, rfl, N2, hb4⟩
    have HX4 := Lib.hid (HX3.out.below hb4)
    have HR4 := Lib.hid (keepSt hb4 HR3.out)
    have hB4 := keepBelow hB3 hb4
    have hc2 : b2 = true → x + 1 - s.rt.1 ≤ c2 ∧ c2 < x + 1 := N2.1
    have HN2 := Lib.hid N2
    clear B0 B1 B2 B3 B4 B5 B6 hb4 N2 HX3 HR3
    obtain ⟨⟨B0, B1, B2, B3, B4, B5, B6⟩, _⟩ := HX4.out
    obtain ⟨r, hr⟩ : ∃ r, (b2 && decide (s.to < c2)) = r := ⟨_, rfl⟩
    have HRR := Lib.hid hr
    clear hr
    go_upto_region 10 with fail
    go_cut [46] from 13 to 108 (fun t wx => t = .bool r ∧ Below w4.heap.size w4 wx)
    case first =>
      cases b2 with
      | false =>
        have e : r = false := HRR.out.symm
        subst e
        go_wp2_with fail
        go_meet
        case rel => exact ⟨rfl, Below.refl _ _⟩
      | true =>
        have e : decide (s.to < c2) = r := HRR.out
        go_wp2_with fail
        go_meet
        case rel => exact ⟨rfl, Below.refl _ _⟩
    case rest =>
    obtain ⟨rfl, hbx⟩ := hcut
    have HXx := Lib.hid (HX4.out.below hbx)
    have HRx := Lib.hid (keepSt hbx HR4.out)
    have hBx := keepBelow hB4 hbx
    clear B0 B1 B2 B3 B4 B5 B6 hbx HX4 HR4
    obtain ⟨⟨B0, B1, B2, B3, B4, B5, B6⟩, _⟩ := HXx.out
    go_upto_if 46 with fail
    go_cut [6] from 13 to 108 (fun u wx' => ∃ n : Int, u = .int .i64 n ∧ na ≤ n ∧ n ≤ x ∧ Hid (b2 = true → s.to < c2 → c2 ≤ n) ∧ Below wc.heap.size wc wx')
    case first =>
      cases r with
      | false =>
        have HF : Hid (¬ (b2 = true ∧ s.to < c2)) := by
          have := HRR.out
          intro hh
          rw [hh.1, decide_eq_true hh.2] at this
          cases this
        go_wp2_with fail
        go_meet
        case rel => exact ⟨_, rfl, by omega, by omega, fun ha hb => absurd ⟨ha, hb⟩ HF.out, Below.refl _ _⟩
      | true =>
        have hT : b2 = true ∧ s.to < c2 := by
          have := HRR.out
          simp at this
          exact this
        have hcc := hc2 hT.1
        have hT2 := hT.2
        clear hT
        go_wp2_with fail
        go_meet
        case rel => exact ⟨_, rfl, by omega, by omega, fun _ _ => by omega, Below.refl _ _⟩
    case rest =>
    obtain ⟨nb, rfl, nb1, nb2, HNb, hb5⟩ := hcut
    have HX5 := Lib.hid (HXx.out.below hb5)
    have HR5 := Lib.hid (keepSt hb5 HRx.out)
    have hB5 := keepBelow hBx hb5
    clear B0 B1 B2 B3 B4 B5 B6 hb5 hc2 HXx HRx
    obtain ⟨⟨B0, B1, B2, B3, B4, B5, B6⟩, _⟩ := HX5.out
    go_upto_if 53 with fail
    go_cut [6] from 13 to 108 (fun u wx => ∃ n : Int, u = .int .i64 n ∧ nb ≤ n ∧ n ≤ x ∧ Hid (s.fr ≤ x → s.fr ≤ n) ∧ Below wc.heap.size wc wx)
    case first =>
      by_cases g : s.fr ≤ x
      · have t1 : decide (s.fr ≤ x) = true := by simpa using g
        go_wp2_with fail
        go_meet
        case rel => exact ⟨_, rfl, by omega, by omega, fun _ => by omega, Below.refl _ _⟩
      · have t1 : decide (s.fr ≤ x) = false := by simpa using g
        go_wp2_with fail
        go_meet
        case rel => exact ⟨_, rfl, by omega, by omega, fun hh => by omega, Below.refl _ _⟩
    case rest =>
    obtain ⟨nc, rfl, nc1, nc2, HNc, hb6⟩ := hcut
    have HX6 := Lib.hid (HX5.out.below hb6)
    have HR6 := Lib.hid (keepSt hb6 HR5.out)
    have hB6 := keepBelow hB5 hb6
    clear B0 B1 B2 B3 B4 B5 B6 hb6 HX5 HR5
    obtain ⟨⟨B0, B1, B2, B3, B4, B5, B6⟩, _⟩ := HX6.out
    go_upto_if 61 with fail
    go_cut [6] from 13 to 108 (fun u wx => ∃ n : Int, u = .int .i64 n ∧ nc ≤ n ∧ n ≤ x ∧ Hid (s.to ≤ x → s.to ≤ n) ∧ Below wc.heap.size wc wx)
    case first =>
      by_cases g : s.to ≤ x
      · have t1 : decide (s.to ≤ x) = true := by simpa using g
        go_wp2_with fail
        go_meet
        case rel => exact ⟨_, rfl, by omega, by omega, fun _ => by omega, Below.refl _ _⟩
      · have t1 : decide (s.to ≤ x) = false := by simpa using g
        go_wp2_with fail
        go_meet
        case rel => exact ⟨_, rfl, by omega, by omega, fun hh => by omega, Below.refl _ _⟩
    case rest =>
    obtain ⟨nd, rfl, nd1, nd2, HNd, hb7⟩ := hcut
    have HX7 := Lib.hid (HX6.out.below hb7)
    have HR7 := Lib.hid (keepSt hb7 HR6.out)
    have hB7 := keepBelow hB6 hb7
    clear B0 B1 B2 B3 B4 B5 B6 hb7 HX6 HR6
    obtain ⟨⟨B0, B1, B2, B3, B4, B5, B6⟩, _⟩ := HX7.out
    go_wp2_with fail
    go_loopw [6, 9] (fun un vi w8 => ∃ (i : Nat) (n : Int), un = .int .i64 n ∧ vi = .int .i64 i ∧ i ≤ s.l.length ∧ nd ≤ n ∧ n ≤ x ∧ Hid (∀ j, j < i → ((s.l.getD j (0, 0)).1 ≤ x → (s.l.getD j (0, 0)).1 ≤ n) ∧ ((s.l.getD j (0, 0)).2 ≤ x → (s.l.getD j (0, 0)).2 ≤ n)) ∧ Below wc.heap.size wc w8) (fun _ vi _ => s.l.length - (intOf vi).toNat)
    case atStart => exact ⟨0, nd, rfl, rfl, Nat.zero_le _, Int.le_refl _, nd2, fun j hj => by omega, Below.refl _ _⟩
    case round =>
      obtain ⟨i, nx, rfl, rfl, hi, hn1, hn2, HJ, hB8⟩ := hrel
      have HX8 := Lib.hid (HX7.out.below hB8)
      have HR8 := Lib.hid (keepSt hB8 HR7.out)
      have hBw8 := keepBelow hW (keepBelow hB7 hB8)
      clear B0 B1 B2 B3 B4 B5 B6
      obtain ⟨⟨B0, B1, B2, B3, B4, B5, B6⟩, _⟩ := HX8.out
      by_cases hli : i < s.l.length
      · obtain ⟨bb, o, y1, y2, rfl, hbw, HXY, d1, d2⟩ := rd_at HC.out hBw8 hli
        have hli' : (i : Int) < (s.l.length : Int) := by omega
        have HJ2 : Hid (∀ n, nx ≤ n → (y1 ≤ x → y1 ≤ n) → (y2 ≤ x → y2 ≤ n) → Hid (∀ j, j < i + 1 → ((s.l.getD j (0, 0)).1 ≤ x → (s.l.getD j (0, 0)).1 ≤ n) ∧ ((s.l.getD j (0, 0)).2 ≤ x → (s.l.getD j (0, 0)).2 ≤ n))) := fun n a1 a2 a3 j hj => by
          rcases Nat.lt_succ_iff_lt_or_eq.1 hj with h | rfl
          · have := HJ.out j h
            exact ⟨fun h1 => by have := this.1 h1; omega, fun h1 => by have := this.2 h1; omega⟩
          · rw [HXY.out]
            exact ⟨fun h1 => by simp only at h1 ⊢; exact a2 h1, fun h1 => by simp only at h1 ⊢; exact a3 h1⟩
        by_cases t1 : y1 ≤ x
        · have g1 : decide (y1 ≤ x) = true := by simpa using t1
          by_cases t3 : y2 ≤ x
          · have g3 : decide (y2 ≤ x) = true := by simpa using t3
            go_wp2
            go_roundw
            case rel => exact ⟨i + 1, _, rfl, by go_num, by omega, by omega, by omega, HJ2.out _ (by omega) (fun _ => by omega) (fun _ => by omega), hB8⟩
            case measure => simp [intOf]; omega
          · have g3 : decide (y2 ≤ x) = false := by simpa using t3
            go_wp2
            go_roundw
            case rel => exact ⟨i + 1, _, rfl, by go_num, by omega, by omega, by omega, HJ2.out _ (by omega) (fun _ => by omega) (fun _ => by omega), hB8⟩
            case measure => simp [intOf]; omega
        · have g1 : decide (y1 ≤ x) = false := by simpa using t1
          by_cases t3 : y2 ≤ x
          · have g3 : decide (y2 ≤ x) = true := by simpa using t3
            go_wp2
            go_roundw
            case rel => exact ⟨i + 1, _, rfl, by go_num, by omega, by omega, by omega, HJ2.out _ (by omega) (fun _ => by omega) (fun _ => by omega), hB8⟩
            case measure => simp [intOf]; omega
          · have g3 : decide (y2 ≤ x) = false := by simpa using t3
            go_wp2
            go_roundw
            case rel => exact ⟨i + 1, _, rfl, by go_num, by omega, by omega, by omega, HJ2.out _ (by omega) (fun _ => by omega) (fun _ => by omega), hB8⟩
            case measure => simp [intOf]; omega
      · have HEN : Hid (∀ e ∈ endsOf s.l, e ≤ x → e ≤ nx) := ends_idx (Q := fun e => e ≤ x → e ≤ nx) fun j hj => HJ.out j (by omega)
        have HGAP : Hid (∀ z, nx < z → z ≤ x → hasS s (z - 1) = hasS s z) := prev14_gap HOK.out.good HN1.out HN2.out (fun a => by have := HNa.out a; omega) (fun a b => by have := HNb.out a b; omega) (fun a => by have := HNc.out a; omega) (fun a => by have := HNd.out a; omega) HEN.out
        have HALL : Hid (∀ z, nx - 1 < z → z ≤ x0 → hasS s z = false) := fun z h1 h2 => by
          by_cases hz : z ≤ x
          · exact prev_none hn2 HH.out HGAP.out z (by omega) hz
          · exact HXX.out z (by omega) h2
        have hB9 := keepBelow hB7 hB8
        by_cases hbig : nx - 1 < -4398046511104
        · have t1 : decide (nx - 1 < -4398046511104) = true := by simpa using hbig
          have HP : Hid (PvSpec true s x0 none) := by
            unfold Hid PvSpec
            rw [if_neg (by rw [HLX.out]; simp), if_neg (by rw [HALL.out x0 (by omega) (Int.le_refl _)]; simp)]
            obtain ⟨q, hq⟩ := prev_ex (hasS s) x0
            refine ⟨q, hq, ?_⟩
            cases q with
            | none => rfl
            | some y =>
              have hy : y - 1 < -4398046511104 := by
                rcases Int.lt_or_le (y - 1) (-4398046511104) with h | h
                · exact h
                · exact absurd (by rw [HALL.out y (by omega) hq.1, HALL.out (y - 1) (by omega) (by have := hq.1; omega)]) hq.2.1
              show none = if y - 1 < -4398046511104 then none else some (y - 1)
              rw [if_pos hy]
          clear hbig
          go_wp2
          go_ret2
          exact ⟨none, HP.out, rfl, hBw8⟩
        · have t1 : decide (nx - 1 < -4398046511104) = false := by simpa using hbig
          go_wp2
          go_roundw
          case rel => exact ⟨nx - 1, by go_num, by omega, by omega, HALL, hB9⟩
          case measure => simp [intOf]; omega
end Go.Proofs.YtnjpceocnldlfaaGreat
