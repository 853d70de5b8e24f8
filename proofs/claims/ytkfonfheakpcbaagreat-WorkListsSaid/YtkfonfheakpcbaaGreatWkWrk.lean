import Derived.Test.YtkfonfheakpcbaaGreatWkVal
/- work: line, amount, rank, nth. -/
namespace Go.Proofs.YtkfonfheakpcbaaGreat
open Go.RowKit Wk

theorem kline_any (x : Int) (w : World) :
    Calls Tryz.prog 41 #[.int .i64 x] w fun e w' => e = .returned (.bool (lineB x)) ∧ w = w' := by
  go_enter Tryz.func41, Tryz.ntmps41
  go_wp2
  all_goals go_ret
  all_goals exact ⟨ret_bool (by rw [Bool.eq_iff_iff]; simp [lineB]; omega), rfl⟩
theorem amount_any (x : Int) (w : World) :
    Calls Tryz.prog 39 #[.int .i64 x] w fun e w' => e = .returned (.bool (amountB x)) ∧ w = w' := by
  go_enter Tryz.func39, Tryz.ntmps39
  go_wp2
  all_goals go_ret
  all_goals exact ⟨ret_bool (by rw [Bool.eq_iff_iff]; simp [amountB]; omega), rfl⟩

theorem div_meas {P x ms : Int} (hP : 1 ≤ P) (h0 : 0 ≤ ms) (h1 : ms ≤ P) : (0 ≤ x → 0 ≤ x / P * ms ∧ x / P * ms ≤ x) ∧ (x ≤ 0 → x - P < x / P * ms ∧ x / P * ms ≤ 0) := by
  have hm := mod_lo x hP
  constructor
  · intro hx
    have hk : 0 ≤ x / P := Int.ediv_nonneg hx (by omega)
    have h2 : x / P * ms ≤ x / P * P := Int.mul_le_mul_of_nonneg_left h1 hk
    have h3 : 0 ≤ x / P * ms := Int.mul_nonneg hk h0
    omega
  · intro hx
    have hk : x / P ≤ 0 := by
      apply Decidable.byContradiction
      intro hc
      have : 1 * P ≤ x / P * P := Int.mul_le_mul_of_nonneg_right (by omega) (by omega)
      omega
    have h2 : x / P * P ≤ x / P * ms := Int.mul_le_mul_of_nonpos_left hk h1
    have h3 : x / P * ms ≤ 0 := Int.mul_nonpos_of_nonpos_of_nonneg hk h0
    omega

set_option maxHeartbeats 1000000 in
theorem wrank_any (P x : Int) (v : Value) (l : List Sp) (w : World) (h : RdS w v l) (hv : pvB P l = true) (hx1 : -8796093022208 ≤ x) (hx2 : x ≤ 8796093022208) :
    Calls Tryz.prog 57 #[.agg #[.int .i64 P, v], .int .i64 x] w fun e w' => e = .returned (.int .i64 (rankP (P, l) x)) ∧ Below w.heap.size w w' := by
  obtain ⟨hr, hP1, hP2, hin⟩ := rvB_of_pvB hv
  have hgp := goodP_of_pvB hv
  have hms := meas_le hgp
  have hbd := rankP_bd hgp x
  have hrb := rank_bounds (x - x / P * P) hgp.canon
  have hdm := div_meas (x := x) hP1 hms.1 hms.2
  have hmo := mod_lo x hP1
  have HEQ : Hid (rankP (P, l) x = x / P * meas l + rank l (x - x / P * P)) := rfl
  simp only at hms hrb hdm
  have H1 := Lib.hid (fun W => wfloor_any x P W hP1 (by omega) (by omega) (by omega))
  have H2 := Lib.hid (fun W h => rmeas_any v l W h hr)
  have H3 := Lib.hid (fun W h => rrank_any v l (x - x / P * P) W h hr)
  have HD := Lib.hid h
  obtain ⟨a, c, rfl⟩ := h.form
  clear h hv hgp hin hr
  obtain ⟨W, hWe⟩ : ∃ W, w.alloc (.cells #[.int .i64 P, .slice a l.length c] 24) = W := ⟨_, rfl⟩
  have hB0 : Below w.heap.size w W := by rw [← hWe]; exact (Below.refl _ _).alloc (Nat.le_refl _) _
  have c0 : W.cell? ⟨w.heap.size, 0, none⟩ = some (.int .i64 P) := by rw [← hWe]; simp [go_sem]
  have c1 : W.cell? ⟨w.heap.size, 1, none⟩ = some (.slice a l.length c) := by rw [← hWe]; simp [go_sem]
  have HR := Lib.hid (keepRd hB0 HD.out)
  have HE := Lib.hid hWe
  clear hWe HD
  obtain ⟨q, hq⟩ : ∃ q, x / P = q := ⟨_, rfl⟩
  rw [hq] at H1 H3 HEQ hrb hdm hmo
  obtain ⟨ms, hmse⟩ : ∃ ms, meas l = ms := ⟨_, rfl⟩
  rw [hmse] at H2 HEQ hrb hdm hms
  obtain ⟨rk, hrk⟩ : ∃ rk, rank l (x - q * P) = rk := ⟨_, rfl⟩
  rw [hrk] at H3 HEQ hrb
  obtain ⟨qp, hqp⟩ : ∃ qp, q * P = qp := ⟨_, rfl⟩
  obtain ⟨qm, hqm⟩ : ∃ qm, q * ms = qm := ⟨_, rfl⟩
  rw [hqp] at H3 hmo
  rw [hqm] at HEQ hdm
  rw [HEQ.out] at hbd ⊢
  have s1 : IntKind.i64.wrap (q * P) = qp := by rw [IntKind.wrap_i64, hqp]; omega
  have s2 : IntKind.i64.wrap (q * ms) = qm := by rw [IntKind.wrap_i64, hqm]; omega
  have s3 : IntKind.i64.wrap (x - qp) = x - qp := by rw [IntKind.wrap_i64]; omega
  have s4 : IntKind.i64.wrap (qm + rk) = qm + rk := by rw [IntKind.wrap_i64]; omega
  clear hq hmse hrk hqp hqm HEQ
  go_enter Tryz.func57, Tryz.ntmps57
  go_wp2_with fail
  rw [HE.out]
  go_wp2_with fail
  refine (H1.out _).mono ?_
  rintro e w1 ⟨rfl, rfl⟩
  have e0 := ext_cell c0
  have e1 := ext_cell c1
  have ER := Lib.hid (ext_rd HR.out)
  go_wp2_with fail
  refine wp_region_ext (by kernel_rfl) (by kernel_rfl) ?_
  repeat (go_big_quiet_step (first
    | (go_at_call 83; refine calls_ext (H2.out _ (ER.out _)))
    | (go_at_call 59; refine calls_ext (H3.out _ (ER.out _)))))
  refine wpQuiet_nil ?_
  intro w1 hb1
  go_wp2
  go_ret
  exact ⟨rfl, keepBelow hB0 hb1⟩

set_option maxHeartbeats 1000000 in
theorem wnth_any (P n : Int) (v : Value) (l : List Sp) (w : World) (h : RdS w v l) (hv : pvB P l = true) (hm : 0 < meas l) (hx1 : -8796093022208 ≤ nthP (P, l) n) (hx2 : nthP (P, l) n ≤ 8796093022208) :
    Calls Tryz.prog 56 #[.agg #[.int .i64 P, v], .int .i64 n] w fun e w' => e = .returned (.int .i64 (nthP (P, l) n)) ∧ Below w.heap.size w w' := by
  obtain ⟨hr, hP1, hP2, hin⟩ := rvB_of_pvB hv
  have hgp := goodP_of_pvB hv
  have hms := meas_le hgp
  have hnr := (nthP_spec hgp n hm).1
  have hbd := rankP_bd hgp (nthP (P, l) n)
  rw [hnr] at hbd
  have hmo := mod_lo n (P := meas l) (by omega)
  have hni := nth_in hgp.canon hgp.ins hmo.1 hmo.2
  have HEQ : Hid (nthP (P, l) n = n / meas l * P + nth l (n - n / meas l * meas l)) := rfl
  simp only at hms hni
  have H1 := Lib.hid (fun W h => rmeas_any v l W h hr)
  have H2 := Lib.hid (fun W => wfloor_any n (meas l) W (by omega) (by omega) (by omega) (by omega))
  have H3 := Lib.hid (fun W h => rnth_any v l (n - n / meas l * meas l) W h hr hmo.1 hmo.2)
  obtain ⟨a, c, rfl⟩ := h.form
  obtain ⟨W, hWe⟩ : ∃ W, w.alloc (.cells #[.int .i64 P, .slice a l.length c] 24) = W := ⟨_, rfl⟩
  have hB0 : Below w.heap.size w W := by rw [← hWe]; exact (Below.refl _ _).alloc (Nat.le_refl _) _
  have c0 : W.cell? ⟨w.heap.size, 0, none⟩ = some (.int .i64 P) := by rw [← hWe]; simp [go_sem]
  have c1 : W.cell? ⟨w.heap.size, 1, none⟩ = some (.slice a l.length c) := by rw [← hWe]; simp [go_sem]
  have HR := Lib.hid (keepRd hB0 h)
  have HE := Lib.hid hWe
  clear hWe h hv hgp hin hr hnr
  obtain ⟨q, hq⟩ : ∃ q, n / meas l = q := ⟨_, rfl⟩
  rw [hq] at H2 H3 HEQ hmo hni
  obtain ⟨ms, hmse⟩ : ∃ ms, meas l = ms := ⟨_, rfl⟩
  rw [hmse] at H1 H2 H3 HEQ hmo hms hm hni
  obtain ⟨nt, hnt⟩ : ∃ nt, nth l (n - q * ms) = nt := ⟨_, rfl⟩
  rw [hnt] at H3 HEQ hni
  obtain ⟨qp, hqp⟩ : ∃ qp, q * P = qp := ⟨_, rfl⟩
  obtain ⟨qm, hqm⟩ : ∃ qm, q * ms = qm := ⟨_, rfl⟩
  rw [hqm] at H3 hmo
  rw [hqp] at HEQ
  rw [HEQ.out] at hx1 hx2 hbd ⊢
  have s1 : IntKind.i64.wrap (q * P) = qp := by rw [IntKind.wrap_i64, hqp]; omega
  have s2 : IntKind.i64.wrap (q * ms) = qm := by rw [IntKind.wrap_i64, hqm]; omega
  have s3 : IntKind.i64.wrap (n - qm) = n - qm := by rw [IntKind.wrap_i64]; omega
  have s4 : IntKind.i64.wrap (qp + nt) = qp + nt := by rw [IntKind.wrap_i64]; omega
  clear hq hmse hnt hqp hqm HEQ
  go_enter Tryz.func56, Tryz.ntmps56
  go_wp2_with fail
  rw [HE.out]
  go_wp2_with fail
  refine (H1.out _ HR.out).mono ?_
  rintro e w1 ⟨rfl, hb1⟩
  have d0 := keepCell hb1 c0
  have d1 := keepCell hb1 c1
  have hB1 := keepBelow hB0 hb1
  have HR1 := Lib.hid (keepRd hb1 HR.out)
  clear hb1 c0 c1
  go_wp2_with fail
  refine (H2.out _).mono ?_
  rintro e w2 ⟨rfl, rfl⟩
  go_wp2_with fail
  refine (H3.out _ HR1.out).mono ?_
  rintro e w3 ⟨rfl, hb3⟩
  have e0 := keepCell hb3 d0
  have hB3 := keepBelow hB1 hb3
  clear hb3 d0 d1
  go_wp2
  go_ret
  exact ⟨rfl, hB3⟩

set_option maxHeartbeats 1000000 in
theorem wfault_any (s : St) (vl vr vv : Value) (x : Int) (w : World) (h : RdSt w s vl vr vv) :
    Calls Tryz.prog 38 #[.agg #[.int .i64 s.lf.1, vl, .int .i64 s.rt.1, vr, .int .i64 s.fr, .int .i64 s.to, vv], .int .i64 x] w fun e w' => e = .returned (.int .i64 (faultM (VB s) x)) ∧ Below w.heap.size w w' := by
  have H1 := Lib.hid (fun W h => tvalid_any s vl vr vv W h)
  have H2 := Lib.hid (fun W => kline_any x W)
  obtain ⟨g, hg⟩ : ∃ g, VB s = g := ⟨_, rfl⟩
  rw [hg] at H1 ⊢
  clear hg
  have HF : Hid (faultM g x = if g = false then 1 else if lineB x = false then 2 else 0) := rfl
  obtain ⟨q, hq⟩ : ∃ q, lineB x = q := ⟨_, rfl⟩
  rw [hq] at H2 HF
  clear hq
  obtain ⟨⟨P, l⟩, ⟨Q, m⟩, f, t, k⟩ := s
  have HR0 := Lib.hid h
  obtain ⟨a1, n1, rfl⟩ := h.1.form
  obtain ⟨a2, n2, rfl⟩ := h.2.1.form
  obtain ⟨a3, n3, rfl⟩ := h.2.2.form
  clear h
  simp only at H1 ⊢
  obtain ⟨W, hWe⟩ : ∃ W, w.alloc (.cells #[.int .i64 P, .slice a1 l.length n1, .int .i64 Q, .slice a2 m.length n2, .int .i64 f, .int .i64 t, .slice a3 k.length n3] 26) = W := ⟨_, rfl⟩
  have hW : Below w.heap.size w W := by rw [← hWe]; exact (Below.refl _ w).alloc (Nat.le_refl _) _
  have HX : Hid (Set7 W w.heap.size (.int .i64 P) (.slice a1 l.length n1) (.int .i64 Q) (.slice a2 m.length n2) (.int .i64 f) (.int .i64 t) (.slice a3 k.length n3)) := by
    rw [← hWe]
    refine ⟨⟨?_, ?_, ?_, ?_, ?_, ?_, ?_⟩, ?_, ?_, ?_, ?_, ?_, ?_, ?_⟩ <;> simp [go_sem]
  have HR := Lib.hid (keepSt hW HR0.out)
  have HE := Lib.hid hWe
  clear hWe
  obtain ⟨⟨B0, B1, B2, B3, B4, B5, B6⟩, _⟩ := HX.out
  go_enter Tryz.func38, Tryz.ntmps38
  go_wp2_with fail
  rw [HE.out]
  go_wp2_with fail
  refine (H1.out _ HR.out).mono ?_
  rintro e w1 ⟨rfl, hb1⟩
  have hB1 := keepBelow hW hb1
  clear hb1 B0 B1 B2 B3 B4 B5 B6 HX HR HE hW
  cases g with
  | false =>
    go_wp2
    go_ret
    exact ⟨ret_int (by rw [HF.out]; rfl), hB1⟩
  | true =>
  go_wp2_with fail
  refine (H2.out _).mono ?_
  rintro e w2 ⟨rfl, rfl⟩
  cases q with
  | false =>
    go_wp2
    go_ret
    exact ⟨ret_int (by rw [HF.out]; rfl), hB1⟩
  | true =>
    go_wp2
    go_ret
    exact ⟨ret_int (by rw [HF.out]; rfl), hB1⟩
end Go.Proofs.YtkfonfheakpcbaaGreat
