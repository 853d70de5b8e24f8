/- The law WorkDays. -/
import Derived.Test.YtkfonfheakpcbaaWkLaw3
import Derived.Test.YtkfonfheakpcbaaWkSub
import Derived.Test.YtkfonfheakpcbaaWkSrt
namespace Go.Proofs.Ytkfonfheakpcbaa
open Go.RowKit Wk

theorem days_err {b : Bool} {s : St} {f t least : Int} (h : (daysM b s f t least).2 ≠ 0) : (daysM b s f t least).1 = [] := by
  unfold daysM at h ⊢
  split
  · rfl
  · rename_i h1
    rw [if_neg h1] at h
    split
    · rfl
    · rename_i h2
      rw [if_neg h2] at h
      split
      · rfl
      · rename_i h3
        rw [if_neg h3] at h
        exact absurd rfl h
theorem days_ok {b : Bool} {s : St} {f t least : Int} (h : (daysM b s f t least).2 = 0) :
    b = true ∧ -4398046511104 ≤ f ∧ f < t ∧ t ≤ 4398046511104 ∧ 1 ≤ least ∧ (t - 1) / 86400 - f / 86400 < 1000 ∧ (daysM b s f t least).1 = daysL s f t least (f / 86400) ((t - 1) / 86400 - f / 86400 + 1).toNat := by
  unfold daysM at h ⊢
  split at h
  · exact absurd h (by simp)
  · rename_i h1
    rw [if_neg h1]
    split at h
    · exact absurd h (by simp)
    · rename_i h2
      rw [if_neg h2]
      split at h
      · exact absurd h (by simp)
      · rename_i h3
        rw [if_neg h3]
        have hb : b = true := by cases b with | true => rfl | false => exact absurd (.inl rfl) h1
        have hi : ivB (f, t) = true := by cases hi : ivB (f, t) with | true => rfl | false => exact absurd (.inr hi) h1
        have := (ivB_iff (f, t)).1 hi
        simp only at this
        exact ⟨hb, this.1, this.2.1, this.2.2, by omega, by omega, rfl⟩

set_option maxRecDepth 100000 in
set_option maxHeartbeats 4000000 in
theorem law_WorkDays (s : St) (vl vr vv : Value) (f t least k : Int) (w : World) (h : RdSt w s vl vr vv) (hk : (Lit.int .u8 k).wf = true) :
    Calls Try.prog 7 #[.agg #[.int .i64 s.lf.1, vl, .int .i64 s.rt.1, vr, .int .i64 s.fr, .int .i64 s.to, vv], .agg #[.int .i64 f, .int .i64 t], .int .i64 least, .int .u8 k] w fun e w' => e = .returned (.bool true) ∧ Below w.heap.size w w' := by
  have hk2 : 0 ≤ k ∧ k ≤ 255 := by
    unfold Lit.wf at hk
    simp only [Bool.and_eq_true, decide_eq_true_eq] at hk
    exact ⟨hk.1, hk.2⟩
  have HD := Lib.hid (fun W h => wdays_any s vl vr vv f t least W h)
  have HA := Lib.hid (fun W => awake_any W)
  have HLG := Lib.hid (fun W h => large_any s vl vr vv W h)
  have KM : Hid (∀ (x y : Int), ∀ W, RdSt W s vl vr vv → Calls Try.prog 14 #[.agg #[.int .i64 s.lf.1, vl, .int .i64 s.rt.1, vr, .int .i64 s.fr, .int .i64 s.to, vv], .int .i64 x, .int .i64 y] W fun e w' => e = .returned (.tuple #[.int .i64 (MeaM (VB s) s x y).1, .int .i64 (MeaM (VB s) s x y).2]) ∧ Below W.heap.size W w') := fun x y W h => wmeasure_any s vl vr vv x y W h
  have KH : Hid (∀ (x : Int), ∀ W, RdSt W s vl vr vv → -1152921504606846976 ≤ x → x ≤ 1152921504606846976 → Calls Try.prog 16 #[.agg #[.int .i64 s.lf.1, vl, .int .i64 s.rt.1, vr, .int .i64 s.fr, .int .i64 s.to, vv], .int .i64 x] W fun e w' => e = .returned (.bool (VB s && hasS s x)) ∧ Below W.heap.size W w') := fun x W h h1 h2 => thas_any s vl vr vv x W h h1 h2
  have HGD : Hid (VB s = true → GoodS s) := fun hg => (okS_of_VB hg).good
  generalize VB s = vb at *
  generalize largeB s = lg at *

  clear hk
  obtain ⟨⟨L, er⟩, hLe⟩ : ∃ p, daysM vb s f t least = p := ⟨_, rfl⟩
  have HLE := Lib.hid hLe

  have HR0 := Lib.hid h
  obtain ⟨a1, n1, rfl⟩ := h.1.form
  obtain ⟨a2, n2, rfl⟩ := h.2.1.form
  obtain ⟨a3, n3, rfl⟩ := h.2.2.form
  clear h
  obtain ⟨W, hWe⟩ : ∃ W, (w.alloc (.cells #[.int .i64 s.lf.1, .slice a1 s.lf.2.length n1, .int .i64 s.rt.1, .slice a2 s.rt.2.length n2, .int .i64 s.fr, .int .i64 s.to, .slice a3 s.l.length n3] 26)).alloc (.cells #[.int .i64 f, .int .i64 t] 36) = W := ⟨_, rfl⟩
  have hW : Below w.heap.size w W := by rw [← hWe]; exact ((Below.refl _ w).alloc (Nat.le_refl _) _).alloc (by simp) _
  have HX : Hid (Set7 W w.heap.size (.int .i64 s.lf.1) (.slice a1 s.lf.2.length n1) (.int .i64 s.rt.1) (.slice a2 s.rt.2.length n2) (.int .i64 s.fr) (.int .i64 s.to) (.slice a3 s.l.length n3) ∧ W.cell? ⟨w.heap.size + 1, 0, none⟩ = some (.int .i64 f) ∧ W.cell? ⟨w.heap.size + 1, 1, none⟩ = some (.int .i64 t)) := by
    rw [← hWe]
    refine ⟨⟨⟨?_, ?_, ?_, ?_, ?_, ?_, ?_⟩, ?_, ?_, ?_, ?_, ?_, ?_, ?_⟩, ?_, ?_⟩ <;> simp [go_sem]
  have HR := Lib.hid (keepSt hW HR0.out)
  have HE := Lib.hid hWe
  clear hWe HR0
  obtain ⟨⟨⟨B0, B1, B2, B3, B4, B5, B6⟩, _⟩, S0, S1⟩ := HX.out
  go_enter Try.func7, Try.ntmps7
  go_wp2_with fail
  rw [HE.out]

  go_wp2_with fail
  refine (HA.out _).mono ?_
  rintro e w1 ⟨rfl, hb1⟩
  have HX1 : Hid (_ ∧ _ ∧ _) := ⟨HX.out.1.below hb1, keepCell hb1 HX.out.2.1, keepCell hb1 HX.out.2.2⟩
  have HR1 := Lib.hid (keepSt hb1 HR.out)
  have hB1 := keepBelow hW hb1
  clear hb1 B0 B1 B2 B3 B4 B5 B6 S0 S1 HX HR HE HA
  obtain ⟨⟨⟨B0, B1, B2, B3, B4, B5, B6⟩, _⟩, S0, S1⟩ := HX1.out

  go_wp2_with fail
  refine (HLG.out _ HR1.out).mono ?_
  rintro e w2 ⟨rfl, hb2⟩
  have HX2 : Hid (_ ∧ _ ∧ _) := ⟨HX1.out.1.below hb2, keepCell hb2 HX1.out.2.1, keepCell hb2 HX1.out.2.2⟩
  have HR2 := Lib.hid (keepSt hb2 HR1.out)
  have hB2 := keepBelow hB1 hb2
  clear hb2 B0 B1 B2 B3 B4 B5 B6 S0 S1 HX1 HR1 HLG
  obtain ⟨⟨⟨B0, B1, B2, B3, B4, B5, B6⟩, _⟩, S0, S1⟩ := HX2.out

  cases lg with
  | true =>
    go_wp2
    go_ret
    exact ⟨rfl, hB2⟩
  | false =>
  go_wp2_with fail
  refine (HD.out _ HR2.out).mono ?_
  rintro e w3 ⟨v, rfl, ho, hb3⟩
  have HX3 : Hid (_ ∧ _ ∧ _) := ⟨HX2.out.1.below hb3, keepCell hb3 HX2.out.2.1, keepCell hb3 HX2.out.2.2⟩
  have HR3 := Lib.hid (keepSt hb3 HR2.out)
  have hB3 := keepBelow hB2 hb3
  clear hb3 B0 B1 B2 B3 B4 B5 B6 S0 S1 HX2 HR2 HD
  obtain ⟨⟨⟨B0, B1, B2, B3, B4, B5, B6⟩, _⟩, S0, S1⟩ := HX3.out

  rw [hLe] at ho ⊢
  clear hLe
  simp only at ho ⊢
  obtain ⟨av, nv, rfl, _⟩ := ho.form
  by_cases her : er ≠ 0
  · have hL : L = [] := by have := days_err (b := vb) (s := s) (f := f) (t := t) (least := least) (by rw [HLE.out]; exact her); rw [HLE.out] at this; exact this
    have g1 : (er == 0) = false := by simpa using her
    subst hL
    go_wp2
    go_ret
    exact ⟨ret_bool (by simp), hB3⟩
  have her : er = 0 := by omega
  subst her
  obtain ⟨e1, e2, e3, e4, e5, e6, e7⟩ := days_ok (b := vb) (s := s) (f := f) (t := t) (least := least) (by rw [HLE.out])
  rw [HLE.out] at e7
  simp only at e7
  subst e1
  have hGS := HGD.out (by first | rfl | trivial)
  have hx0 : 0 ≤ k * (t - 1 - f) := Int.mul_nonneg (by omega) (by omega)
  have hx1 : k * (t - 1 - f) ≤ 255 * (t - 1 - f) := Int.mul_le_mul_of_nonneg_right (by omega) (by omega)
  obtain ⟨kp, hkp⟩ : ∃ kp, k * (t - 1 - f) = kp := ⟨_, rfl⟩
  rw [hkp] at hx0 hx1
  have q0 : IntKind.i64.wrap k = k := by rw [IntKind.wrap_i64]; omega
  have q1 : IntKind.i64.wrap (t - 1) = t - 1 := by rw [IntKind.wrap_i64]; omega
  have q2 : IntKind.i64.wrap (t - 1 - f) = t - 1 - f := by rw [IntKind.wrap_i64]; omega
  have q3 : IntKind.i64.wrap (k * (t - 1 - f)) = kp := by rw [IntKind.wrap_i64, hkp]; omega
  have q4 : Int.tdiv kp 255 = kp / 255 := Int.tdiv_eq_ediv_of_nonneg hx0
  obtain ⟨x, hx⟩ : ∃ x, f + kp / 255 = x := ⟨_, rfl⟩
  have bx : f ≤ x ∧ x < t := by omega
  have q5 : IntKind.i64.wrap (f + kp / 255) = x := by rw [IntKind.wrap_i64, hx]; omega
  obtain ⟨dm1, dm2⟩ := day_of hGS (b := true) rfl (least := least) e2 e3 e4 bx.1 bx.2
  obtain ⟨r0, p1, p2, p3, p4⟩ := second_eq x
  have hmo := mod_lo x (P := 86400) (by omega)
  obtain ⟨d, hd⟩ : ∃ d, x / 86400 = d := ⟨_, rfl⟩
  rw [hd] at dm1 dm2 p4 hmo
  rw [← e7] at dm2
  obtain ⟨sec, hsec⟩ : ∃ sec, x - d * 86400 = sec := ⟨_, rfl⟩
  rw [hsec] at p4 hmo
  have q6 : IntKind.i64.wrap (r0 + 86400) = r0 + 86400 := by rw [IntKind.wrap_i64]; omega
  have q7 : IntKind.i64.wrap (x - sec) = x - sec := by rw [IntKind.wrap_i64]; omega
  have q8 : Int.tdiv (x - sec) 86400 = d := by
    rw [show x - sec = d * 86400 by omega]
    exact Int.mul_tdiv_cancel _ (by omega)
  have q9 : IntKind.i64.wrap (d * 86400) = d * 86400 := by rw [IntKind.wrap_i64]; omega
  have q10 : IntKind.i64.wrap (d + 1) = d + 1 := by rw [IntKind.wrap_i64]; omega
  have q11 : IntKind.i64.wrap ((d + 1) * 86400) = (d + 1) * 86400 := by rw [IntKind.wrap_i64]; omega
  have bd1 : -8796093022208 ≤ d ∧ d ≤ 8796093022208 := by omega
  have q12 : IntKind.i64.wrap d = d := by rw [IntKind.wrap_i64]; omega
  have hLn : L.length ≤ 1000 := by rw [e7]; have := days_len s f t least (f / 86400) ((t - 1) / 86400 - f / 86400 + 1).toNat; omega
  have hLs : L.Pairwise (· < ·) := by rw [e7]; exact days_sorted _
  have KM1 := KM.out (max f (d * 86400)) (min t ((d + 1) * 86400))
  rw [dm1] at KM1
  obtain ⟨dc, hdc⟩ : ∃ dc, dayC s f t d = dc := ⟨_, rfl⟩
  rw [hdc] at KM1 dm2
  have HI : Hid (decide (d ∈ L) = decide (least ≤ dc)) := by unfold Hid; exact decide_eq_decide.2 dm2
  have KM1 := Lib.hid KM1
  have KC := Lib.hid (fun v W h => con_any v L d W h)
  have KS := Lib.hid (fun v W h => sorted_any v L W h hLs)
  have HO := Lib.hid ho
  clear dm1 dm2 e7 hLs hdc hsec hd hx hkp HLE HGD hGS KH KM ho e5 e6
  go_wp2_with fail
  refine (KM1.out _ HR3.out).mono ?_
  rintro e' w4 ⟨rfl, hb4⟩
  have HO4 := Lib.hid (HO.out.below hb4)
  have HX4 : Hid (_ ∧ _ ∧ _) := ⟨HX3.out.1.below hb4, keepCell hb4 HX3.out.2.1, keepCell hb4 HX3.out.2.2⟩
  have HR4 := Lib.hid (keepSt hb4 HR3.out)
  have hB4 := keepBelow hB3 hb4
  clear hb4 B0 B1 B2 B3 B4 B5 B6 S0 S1 HX3 HR3 
  obtain ⟨⟨⟨B0, B1, B2, B3, B4, B5, B6⟩, _⟩, S0, S1⟩ := HX4.out

  go_wp2_with fail
  refine (KC.out _ _ (HO4.out.rdI (by omega))).mono ?_
  rintro e' w5 ⟨rfl, hb5⟩
  have HO5 := Lib.hid (HO4.out.below hb5)
  have HX5 : Hid (_ ∧ _ ∧ _) := ⟨HX4.out.1.below hb5, keepCell hb5 HX4.out.2.1, keepCell hb5 HX4.out.2.2⟩
  have HR5 := Lib.hid (keepSt hb5 HR4.out)
  have hB5 := keepBelow hB4 hb5
  clear hb5 B0 B1 B2 B3 B4 B5 B6 S0 S1 HX4 HR4 HO4
  obtain ⟨⟨⟨B0, B1, B2, B3, B4, B5, B6⟩, _⟩, S0, S1⟩ := HX5.out

  have hI := HI.out
  obtain ⟨c1, hc1⟩ : ∃ c, decide (d ∈ L) = c := ⟨_, rfl⟩
  rw [hc1] at hI ⊢
  clear hc1 HI
  subst hI
  go_wp2_with fail
  refine (KS.out _ _ (HO5.out.rdI (by omega))).mono ?_
  rintro e' w6 ⟨rfl, hb6⟩
  have HX6 : Hid (_ ∧ _ ∧ _) := ⟨HX5.out.1.below hb6, keepCell hb6 HX5.out.2.1, keepCell hb6 HX5.out.2.2⟩
  have HR6 := Lib.hid (keepSt hb6 HR5.out)
  have hB6 := keepBelow hB5 hb6
  clear hb6 B0 B1 B2 B3 B4 B5 B6 S0 S1 HX5 HR5 
  obtain ⟨⟨⟨B0, B1, B2, B3, B4, B5, B6⟩, _⟩, S0, S1⟩ := HX6.out

  go_wp2
  go_ret
  exact ⟨ret_bool (by simp), hB6⟩
end Go.Proofs.Ytkfonfheakpcbaa
