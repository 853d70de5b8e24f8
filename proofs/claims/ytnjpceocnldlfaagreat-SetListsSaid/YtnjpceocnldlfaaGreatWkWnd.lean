import Derived.Test.YtnjpceocnldlfaaGreatWkRfE
/- The reference's Window of a set, Parts. -/
namespace Go.Proofs.YtnjpceocnldlfaaGreat
open Go.RowKit Wk

theorem w13_err {P : Int} {l : List Sp} {f t : Int} (h : (w13M P l f t).2 ≠ 0) : w13M P l f t = ([], 5) ∧ 2000 < (memF (hasP (P, l)) f (t - f).toNat).length := by
  unfold w13M at h ⊢
  by_cases hl : (memF (hasP (P, l)) f (t - f).toNat).length ≤ 2000
  · rw [if_pos hl] at h; exact absurd rfl h
  · rw [if_neg hl]; exact ⟨rfl, by omega⟩
theorem w13_in {P : Int} {l : List Sp} {f t : Int} (hft : f ≤ t) (h : (w13M P l f t).2 = 0) : Canon (w13M P l f t).1 ∧ (w13M P l f t).1.length ≤ 2000 ∧ ∀ x, inL (w13M P l f t).1 x = ((decide (f ≤ x) && decide (x < t)) && hasP (P, l) x) := by
  unfold w13M at h ⊢
  by_cases hl : (memF (hasP (P, l)) f (t - f).toNat).length ≤ 2000
  · rw [if_pos hl]
    have hr := memF_runs (hasP (P, l)) f (t - f).toNat
    rw [show f + ((t - f).toNat : Int) = t by omega] at hr
    refine ⟨hr.can, hl, fun x => ?_⟩
    by_cases hx : f ≤ x ∧ x < t
    · rw [runs_in hr hx.1 hx.2, decide_eq_true hx.1, decide_eq_true hx.2]; rfl
    · rcases (by omega : x < f ∨ t ≤ x) with h1 | h1
      · rw [inL_low fun s hs => by have := (hr.ins s hs).1; omega, decide_eq_false (by omega : ¬ f ≤ x)]; rfl
      · rw [inL_high fun s hs => by have := (hr.ins s hs).2; omega, decide_eq_false (by omega : ¬ x < t)]; simp
  · rw [if_neg hl] at h; simp at h
def wndS (s : St) (f t : Int) (x : Int) : Bool := (((decide (f ≤ x) && decide (x < min t s.fr)) && hasP s.lf x) || ((decide (f ≤ x) && decide (x < t)) && inL s.l x)) || ((decide (max f s.to ≤ x) && decide (x < t)) && hasP s.rt x)
theorem wndS_eq {s : St} (hg : GoodS s) (f t x : Int) : wndS s f t x = ((decide (f ≤ x) && decide (x < t)) && hasS s x) := by
  have hft := hg.ft
  unfold wndS
  by_cases hx : f ≤ x ∧ x < t
  · rw [decide_eq_true hx.1, decide_eq_true hx.2]
    by_cases h1 : x < s.fr
    · rw [decide_eq_true (by omega : x < min t s.fr), decide_eq_false (by omega : ¬ max f s.to ≤ x), inL_low fun u hu => by have := (hg.ins u hu).1; omega, has_lf h1]
      simp
    · rw [decide_eq_false (by omega : ¬ x < min t s.fr)]
      by_cases h2 : x < s.to
      · rw [decide_eq_false (by omega : ¬ max f s.to ≤ x), has_mid (by omega) h2]
        simp
      · rw [decide_eq_true (by omega : max f s.to ≤ x), inL_high fun u hu => by have := (hg.ins u hu).2; omega, has_rt hft (by omega)]
        simp
  · rcases (by omega : x < f ∨ t ≤ x) with h1 | h1
    · rw [decide_eq_false (by omega : ¬ f ≤ x), decide_eq_false (by omega : ¬ max f s.to ≤ x)]; rfl
    · rw [decide_eq_false (by omega : ¬ x < t), decide_eq_false (by omega : ¬ x < min t s.fr)]; simp
theorem wnd_is {s : St} (hg : GoodS s) {f t : Int} (hft : f < t) {L : List Sp} (hc : Canon L) (hv : ∀ x, inL L x = wndS s f t x) : L = memF (hasS s) f (t - f).toNat := by
  have hr := memF_runs (hasS s) f (t - f).toNat
  rw [show f + ((t - f).toNat : Int) = t by omega] at hr
  refine canon_ext hc hr.can fun x => ?_
  rw [hv x, wndS_eq hg]
  by_cases hx : f ≤ x ∧ x < t
  · rw [runs_in hr hx.1 hx.2, decide_eq_true hx.1, decide_eq_true hx.2]; rfl
  · rcases (by omega : x < f ∨ t ≤ x) with h1 | h1
    · rw [inL_low fun s hs => by have := (hr.ins s hs).1; omega, decide_eq_false (by omega : ¬ f ≤ x)]; rfl
    · rw [inL_high fun s hs => by have := (hr.ins s hs).2; omega, decide_eq_false (by omega : ¬ x < t)]; simp
theorem full_left {s : St} (_ : GoodS s) {f t : Int} (h1 : f < s.fr) (h : 2000 < (memF (hasP s.lf) f (min t s.fr - f).toNat).length) : winM true s f t = winM true s f t ∧ 2000 < (memF (hasS s) f (t - f).toNat).length := by
  refine ⟨rfl, ?_⟩
  have e : memF (hasP s.lf) f (min t s.fr - f).toNat = memF (hasS s) f (min t s.fr - f).toNat := memF_congr _ fun x a b => by rw [has_lf (by omega)]
  rw [e] at h
  have := memF_le (hasS s) f (a := (min t s.fr - f).toNat) (b := (t - f).toNat) (by omega)
  omega
theorem full_right {s : St} (hg : GoodS s) {f t : Int} (hft : f < t) (h1 : s.to < t) (h : 2000 < (memF (hasP s.rt) (max f s.to) (t - max f s.to).toNat).length) : 2000 < (memF (hasS s) f (t - f).toNat).length := by
  have hr := memF_runs (hasS s) f (t - f).toNat
  rw [show f + ((t - f).toNat : Int) = t by omega] at hr
  have hq := memF_runs (hasP s.rt) (max f s.to) (t - max f s.to).toNat
  rw [show max f s.to + ((t - max f s.to).toNat : Int) = t by omega] at hq
  have e : clipM (memF (hasS s) f (t - f).toNat) (max f s.to) t = memF (hasP s.rt) (max f s.to) (t - max f s.to).toNat := by
    refine canon_ext (clip_canon hr.can) hq.can fun x => ?_
    rw [clip_in]
    by_cases hx : max f s.to ≤ x ∧ x < t
    · rw [runs_in hr (by omega) hx.2, runs_in hq hx.1 hx.2, has_rt hg.ft (by omega), decide_eq_true hx.1, decide_eq_true hx.2]; rfl
    · rcases (by omega : x < max f s.to ∨ t ≤ x) with h2 | h2
      · rw [inL_low (l := memF (hasP s.rt) _ _) fun s hs => by have := (hq.ins s hs).1; omega, decide_eq_false (by omega : ¬ max f s.to ≤ x)]; rfl
      · rw [inL_high (l := memF (hasP s.rt) _ _) fun s hs => by have := (hq.ins s hs).2; omega, decide_eq_false (by omega : ¬ x < t)]; simp
  rw [← e] at h
  have := clip_len (memF (hasS s) f (t - f).toNat) (max f s.to) t
  omega
theorem win_full {s : St} {f t : Int} (hiv : ivB (f, t) = true) (h : 2000 < (memF (hasS s) f (t - f).toNat).length) : winM true s f t = ([], 5) := by
  unfold winM
  rw [if_neg (by rw [hiv]; simp), if_neg (by omega)]
theorem win_ok {s : St} {f t : Int} (hiv : ivB (f, t) = true) {L : List Sp} (hL : L = memF (hasS s) f (t - f).toNat) (h : L.length ≤ 2000) : winM true s f t = (L, 0) := by
  unfold winM
  rw [if_neg (by rw [hiv]; simp), ← hL, if_pos h]

def W14Post (s : St) (f t : Int) (w : World) (e : Ending) (w' : World) : Prop := ∃ v, e = .returned (.tuple #[v, .int .i64 (winM true s f t).2]) ∧ RdS w' v (winM true s f t).1 ∧ Below w.heap.size w w'

set_option maxRecDepth 100000 in
set_option maxHeartbeats 8000000 in
theorem window14_any (s : St) (vl vr vv : Value) (f t : Int) (w : World) (h : RdSt w s vl vr vv) (hs : OkS s) (hiv : ivB (f, t) = true) :
    Calls Tryz.prog 27 #[.agg #[.int .i64 s.lf.1, vl, .int .i64 s.rt.1, vr, .int .i64 s.fr, .int .i64 s.to, vv], .agg #[.int .i64 f, .int .i64 t]] w (W14Post s f t w) := by
  have hiq := (ivB_iff (f, t)).1 hiv
  simp only at hiq
  have hf1 := hiq.1
  have hft := hiq.2.1
  have ht1 := hiq.2.2
  have hsf := hs.ft
  have hs1 := hs.f1
  have hs2 := hs.t1
  have HG := Lib.hid hs.good
  have HIV := Lib.hid hiv
  have hlk := (canon_of_rvB hs.l).2.2
  have HCK := Lib.hid (canon_of_rvB hs.l).1
  have hvl := hs.lf
  have hvr := hs.rt
  have C1 : Hid (∀ b W, RdS W vl s.lf.2 → f < b → b ≤ 4398046511104 → Calls Tryz.prog 73 #[.agg #[.int .i64 s.lf.1, vl], .agg #[.int .i64 f, .int .i64 b]] W (W13Post s.lf.1 s.lf.2 f b W)) := fun b W hr h1 h2 => window13_any s.lf.1 f b vl s.lf.2 W hr hvl ((ivB_iff (f, b)).2 ⟨hf1, h1, h2⟩)
  have C2 : Hid (∀ a W, RdS W vr s.rt.2 → -4398046511104 ≤ a → a < t → Calls Tryz.prog 73 #[.agg #[.int .i64 s.rt.1, vr], .agg #[.int .i64 a, .int .i64 t]] W (W13Post s.rt.1 s.rt.2 a t W)) := fun a W hr h1 h2 => window13_any s.rt.1 a t vr s.rt.2 W hr hvr ((ivB_iff (a, t)).2 ⟨h1, h2, ht1⟩)
  have C3 := Lib.hid (fun W (h : RdS W vv s.l) => clip14_any vv s.l f t W h (by omega))
  clear hiv hiq hvl hvr
  clear hs
  have HR0 := Lib.hid h
  obtain ⟨a1, n1, rfl⟩ := h.1.form
  obtain ⟨a2, n2, rfl⟩ := h.2.1.form
  obtain ⟨a3, n3, rfl⟩ := h.2.2.form
  clear h
  obtain ⟨W, hWe⟩ : ∃ W, (w.alloc (.cells #[.int .i64 s.lf.1, .slice a1 s.lf.2.length n1, .int .i64 s.rt.1, .slice a2 s.rt.2.length n2, .int .i64 s.fr, .int .i64 s.to, .slice a3 s.l.length n3] 26)).alloc (.cells #[.int .i64 f, .int .i64 t] 40) = W := ⟨_, rfl⟩
  have hW : Below w.heap.size w W := by rw [← hWe]; exact ((Below.refl _ w).alloc (Nat.le_refl _) _).alloc (by simp) _
  have HX : Hid (Set7 W w.heap.size (.int .i64 s.lf.1) (.slice a1 s.lf.2.length n1) (.int .i64 s.rt.1) (.slice a2 s.rt.2.length n2) (.int .i64 s.fr) (.int .i64 s.to) (.slice a3 s.l.length n3)) := by
    rw [← hWe]
    refine ⟨⟨?_, ?_, ?_, ?_, ?_, ?_, ?_⟩, ?_, ?_, ?_, ?_, ?_, ?_, ?_⟩ <;> simp [go_sem]
  have d0 : W.cell? ⟨w.heap.size + 1, 0, none⟩ = some (.int .i64 f) := by rw [← hWe]; simp [go_sem]
  have d1 : W.cell? ⟨w.heap.size + 1, 1, none⟩ = some (.int .i64 t) := by rw [← hWe]; simp [go_sem]
  have HR := Lib.hid (keepSt hW HR0.out)
  have HE := Lib.hid hWe
  clear hWe
  obtain ⟨⟨B0, B1, B2, B3, B4, B5, B6⟩, _⟩ := HX.out
  go_enter Tryz.func27, Tryz.ntmps27
  go_upto_if 15 with fail
  rw [HE.out]
  go_cut [6, 7, 8] from 11 to 71 (fun u _ _ wx => ∃ L1, RdS wx u L1 ∧ Canon L1 ∧ L1.length ≤ 2000 ∧ Hid (∀ x, inL L1 x = ((decide (f ≤ x) && decide (x < min t s.fr)) && hasP s.lf x)) ∧ Below W.heap.size W wx)
  case first =>
    by_cases h1 : f < s.fr
    · have t1 : decide (f < s.fr) = true := by simpa using h1
      obtain ⟨M, hM⟩ : ∃ M, min t s.fr = M := ⟨_, rfl⟩
      have hM1 : f < M ∧ M ≤ 4398046511104 := by omega
      have HMM := Lib.hid hM
      have C1' := C1.out
      have K := C1' M W HR.out.1 hM1.1 hM1.2
      clear C1'
      rw [← HMM.out] at K
      have K := Lib.hid K
      clear hM
      go_wp2_with fail
      refine K.out.mono ?_
      rintro e w1 ⟨v1, rfl, hr1, hb1⟩
      rw [HMM.out] at hr1 ⊢
      obtain ⟨q, hq⟩ : ∃ q, w13M s.lf.1 s.lf.2 f M = q := ⟨_, rfl⟩
      rw [hq] at hr1 ⊢
      have hB1 := keepBelow hW hb1
      clear B0 B1 B2 B3 B4 B5 B6 K
      by_cases hq0 : q.2 = 0
      · have hw := w13_in (P := s.lf.1) (l := s.lf.2) (f := f) (t := M) (by omega) (by rw [hq]; exact hq0)
        rw [hq] at hw
        have HW := Lib.hid hw
        clear hw hq
        obtain ⟨q1, q2⟩ := q
        simp only at hq0
        subst hq0
        obtain ⟨p1, c1, rfl⟩ := hr1.form
        go_wp2_with fail
        go_meet
        case rel => exact ⟨q1, hr1, HW.out.1, HW.out.2.1, by unfold Hid; rw [HMM.out]; exact HW.out.2.2, hb1⟩
      · have hw := w13_err (P := s.lf.1) (l := s.lf.2) (f := f) (t := M) (by rw [hq]; exact hq0)
        have hwin : Hid (winM true s f t = ([], 5)) := win_full HIV.out (full_left HG.out h1 (by rw [HMM.out]; exact hw.2)).2
        have hqe : q = ([], 5) := by rw [← hq]; exact hw.1
        subst hqe
        clear hw hq hq0
        obtain ⟨p1, c1, rfl⟩ := hr1.form
        go_wp2
        go_ret2
        exact ⟨.slice none 0 0, by rw [hwin.out]; rfl, by rw [hwin.out]; exact rdS_nil _, hB1⟩
    · have t1 : decide (f < s.fr) = false := by simpa using h1
      go_wp2_with fail
      go_meet
      case rel => exact ⟨[], rdS_nil _, trivial, by simp, fun x => by
        by_cases hx : f ≤ x
        · rw [decide_eq_false (by omega : ¬ x < min t s.fr)]; simp [inL]
        · rw [decide_eq_false hx]; rfl, Below.refl _ _⟩
  case rest =>
  obtain ⟨L1, hr1, hc1, hl1, HV1, hb1⟩ := hcut
  have HX1 := Lib.hid (HX.out.below hb1)
  have HR1 := Lib.hid (keepSt hb1 HR.out)
  have e0 := keepCell hb1 d0
  have e1 := keepCell hb1 d1
  have hB1 := keepBelow hW hb1
  have HRL := Lib.hid hr1
  obtain ⟨p1, c1, rfl⟩ := hr1.form
  clear B0 B1 B2 B3 B4 B5 B6 hb1 d0 d1 hr1 HX HR HE
  obtain ⟨⟨B0, B1, B2, B3, B4, B5, B6⟩, _⟩ := HX1.out
  go_wp2_with fail
  refine (C3.out _ HR1.out.2.2).mono ?_
  rintro e w2 ⟨v2, rfl, ho2, hb2⟩
  have HX2 := Lib.hid (HX1.out.below hb2)
  have HR2 := Lib.hid (keepSt hb2 HR1.out)
  have d0 := keepCell hb2 e0
  have d1 := keepCell hb2 e1
  have hB2 := keepBelow hB1 hb2
  have hcl := clip_len s.l f t
  have HL2 := Lib.hid (lists_any _ _ L1 (clipM s.l f t) 0 w2 (keepRd hb2 HRL.out) (ho2.rd (by omega)) (by omega) (by omega) hc1 (clip_canon HCK.out))
  obtain ⟨p2, c2, rfl, _⟩ := ho2.form
  clear B0 B1 B2 B3 B4 B5 B6 hb2 e0 e1 ho2 HX1 HR1
  obtain ⟨⟨B0, B1, B2, B3, B4, B5, B6⟩, _⟩ := HX2.out
  go_wp2_with fail
  refine HL2.out.mono ?_
  rintro e w3 ⟨v3, L3, rfl, ho3, hc3, hv3, hl3, hb3⟩
  have HX3 := Lib.hid (HX2.out.below hb3)
  have HR3 := Lib.hid (keepSt hb3 HR2.out)
  have e0 := keepCell hb3 d0
  have e1 := keepCell hb3 d1
  have hB3 := keepBelow hB2 hb3
  have hl3' : L3.length ≤ 8000 := by omega
  have HV3 : Hid (∀ x, inL L3 x = (((decide (f ≤ x) && decide (x < min t s.fr)) && hasP s.lf x) || ((decide (f ≤ x) && decide (x < t)) && inL s.l x))) := fun x => by
    rw [hv3 x, HV1.out x, clip_in]
    unfold ruleB
    rw [if_pos rfl]
  have HR33 := Lib.hid (ho3.rd (by omega))
  obtain ⟨p3, c3, rfl, _⟩ := ho3.form
  clear B0 B1 B2 B3 B4 B5 B6 hb3 d0 d1 ho3 hv3 HX2 HR2 HL2
  obtain ⟨⟨B0, B1, B2, B3, B4, B5, B6⟩, _⟩ := HX3.out
  go_upto_if 47 with fail
  go_cut [6, 9, 10] from 11 to 71 (fun u _ _ wx => ∃ L4, RdS wx u L4 ∧ L4.length ≤ 100000 ∧ Hid (L4 = memF (hasS s) f (t - f).toNat) ∧ Below w3.heap.size w3 wx)
  case first =>
    by_cases h1 : s.to < t
    · have t1 : decide (s.to < t) = true := by simpa using h1
      obtain ⟨M, hM⟩ : ∃ M, max f s.to = M := ⟨_, rfl⟩
      have hM1 : -4398046511104 ≤ M ∧ M < t := by omega
      have HMM := Lib.hid hM
      have C2' := C2.out
      have K := C2' M w3 HR3.out.2.1 hM1.1 hM1.2
      clear C2'
      rw [← HMM.out] at K
      have K := Lib.hid K
      clear hM
      go_wp2_with fail
      refine K.out.mono ?_
      rintro e w4 ⟨v4, rfl, hr4, hb4⟩
      rw [HMM.out] at hr4 ⊢
      obtain ⟨q, hq⟩ : ∃ q, w13M s.rt.1 s.rt.2 M t = q := ⟨_, rfl⟩
      rw [hq] at hr4 ⊢
      have hB4 := keepBelow hB3 hb4
      clear B0 B1 B2 B3 B4 B5 B6 K
      by_cases hq0 : q.2 = 0
      · have hw := w13_in (P := s.rt.1) (l := s.rt.2) (f := M) (t := t) (by omega) (by rw [hq]; exact hq0)
        rw [hq] at hw
        have HW := Lib.hid hw
        clear hq
        obtain ⟨q1, q2⟩ := q
        simp only at hq0 hw
        subst hq0
        have HL4 := Lib.hid (lists_any _ _ L3 q1 0 w4 (keepRd hb4 HR33.out) hr4 (by omega) (by omega) hc3 hw.1)
        have hlq := hw.2.1
        clear hw
        obtain ⟨p4, c4, rfl⟩ := hr4.form
        go_wp2_with fail
        refine HL4.out.mono ?_
        rintro e w5 ⟨v5, L5, rfl, ho5, hc5, hv5, hl5, hb5⟩
        have hEQ : Hid (L5 = memF (hasS s) f (t - f).toNat) := wnd_is HG.out hft hc5 fun x => by
          rw [hv5 x, HV3.out x, HW.out.2.2 x, ← HMM.out]
          unfold ruleB wndS
          rw [if_pos rfl]
        have hr5 := ho5.rd (by omega)
        have hB5 := keepBelow hb4 hb5
        clear hv5 ho5
        go_wp2_with fail
        go_meet
        case rel => exact ⟨L5, hr5, by omega, hEQ, hB5⟩
      · have hw := w13_err (P := s.rt.1) (l := s.rt.2) (f := M) (t := t) (by rw [hq]; exact hq0)
        have hwin : Hid (winM true s f t = ([], 5)) := win_full HIV.out (full_right HG.out hft h1 (by rw [HMM.out]; exact hw.2))
        have hqe : q = ([], 5) := by rw [← hq]; exact hw.1
        subst hqe
        clear hw hq hq0
        obtain ⟨p4, c4, rfl⟩ := hr4.form
        go_wp2
        go_ret2
        exact ⟨.slice none 0 0, by rw [hwin.out]; rfl, by rw [hwin.out]; exact rdS_nil _, hB4⟩
    · have t1 : decide (s.to < t) = false := by simpa using h1
      have hEQ : Hid (L3 = memF (hasS s) f (t - f).toNat) := wnd_is HG.out hft hc3 fun x => by
        rw [HV3.out x]
        unfold wndS
        by_cases hx : max f s.to ≤ x
        · rw [decide_eq_false (by omega : ¬ x < t)]; simp
        · rw [decide_eq_false hx]; simp
      go_wp2_with fail
      go_meet
      case rel => exact ⟨L3, HR33.out, by omega, hEQ, Below.refl _ _⟩
  case rest =>
  obtain ⟨L4, hr4, hl4, HEQ, hb4⟩ := hcut
  have hB4 := keepBelow hB3 hb4
  have HRL4 := Lib.hid hr4
  obtain ⟨p4, c4, rfl⟩ := hr4.form
  clear hr4 B0 B1 B2 B3 B4 B5 B6
  by_cases hbig : 2000 < L4.length
  · have t2 : decide ((2000 : Int) < (L4.length : Int)) = true := decide_eq_true (by omega)
    have hwin : Hid (winM true s f t = ([], 5)) := win_full HIV.out (by rw [← HEQ.out]; exact hbig)
    clear hbig
    go_wp2
    go_ret2
    exact ⟨.slice none 0 0, by rw [hwin.out]; rfl, by rw [hwin.out]; exact rdS_nil _, hB4⟩
  · have t2 : decide ((2000 : Int) < (L4.length : Int)) = false := decide_eq_false (by omega)
    have hwin : Hid (winM true s f t = (L4, 0)) := win_ok HIV.out HEQ.out (by omega)
    clear hbig
    go_wp2
    go_ret2
    exact ⟨_, by rw [hwin.out]; rfl, by rw [hwin.out]; exact HRL4.out, hB4⟩
end Go.Proofs.YtnjpceocnldlfaaGreat
