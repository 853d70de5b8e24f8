import Derived.Test.YtnjpceocnldlfaaGreatWkVal
import Derived.Test.YtnjpceocnldlfaaGreatWkRfE
/- Has at every int, program and reference. -/
namespace Go.Proofs.YtnjpceocnldlfaaGreat
open Go.RowKit Wk

set_option maxHeartbeats 400000 in
theorem idiv_wid_f (a b : Int) (w : World) (hb : 1 ≤ b) (hb2 : b ≤ 1152921504606846976) (ha1 : -9223372036854775808 ≤ a) (ha2 : a ≤ 9223372036854775807) (g2 : ((a == -9223372036854775808) : Bool) = false) :
    Calls Tryz.prog 178 #[.int .i64 a, .int .i64 b] w fun e w' => e = .returned (.tuple #[.int .i64 (a / b), .int .i64 (a - a / b * b), .int .i64 0]) ∧ Below w.heap.size w w' := by
  have g1 : ((b == 0) : Bool) = false := by simp; omega
  have g3 : ((b == -1) : Bool) = false := by simp; omega
  have hc : b * (a / b) = a / b * b := Int.mul_comm _ _
  have hmm := Int.mul_ediv_add_emod a b
  have HE : Hid (a - a / b * b = a % b) := by unfold Hid; omega
  clear hc hmm
  rw [HE.out]
  by_cases h : 0 ≤ a
  · have hm := Int.emod_nonneg a (b := b) (by omega)
    have hd := Int.ediv_nonneg h (b := b) (by omega)
    by_cases hz : a % b = 0
    · have HZ := Lib.hid hz
      have hz' : ((a % b) == 0) = true := by simp [hz]
      have hz'' : ((a % b) != 0) = false := by simp [hz]
      clear hz
      go_enter Tryz.func178, Tryz.ntmps178
      go_wp2_with fail
      refine wp_region_ext (by kernel_rfl) (by kernel_rfl) ?_
      repeat (go_big_quiet_step (fail))
      refine wpQuiet_nil ?_
      intro w1 hb1
      go_wp2
      go_ret3
      exact ⟨rfl, hb1⟩
    · have HZ := Lib.hid hz
      have hz' : ((a % b) == 0) = false := by simp [hz]
      have hz'' : ((a % b) != 0) = true := by simp [hz]
      have hn1 : decide (a % b < 0) = false := by simp; omega
      have hn2 : decide (b < 0) = false := by simp; omega
      clear hz
      go_enter Tryz.func178, Tryz.ntmps178
      go_wp2_with fail
      refine wp_region_ext (by kernel_rfl) (by kernel_rfl) ?_
      repeat (go_big_quiet_step (fail))
      refine wpQuiet_nil ?_
      intro w1 hb1
      go_wp2
      go_ret3
      exact ⟨rfl, hb1⟩
  · have hd := tdiv_neg (a := a) (b := b) (by omega) hb
    have hq := Int.natAbs_tdiv_le_natAbs a b
    have HD := Lib.hid hd
    rcases hd with ⟨h1, h2, h3⟩ | ⟨h1, h2, h3⟩
    · have hz' : ((a.tmod b) == 0) = true := by simp [h1]
      have hz'' : ((a.tmod b) != 0) = false := by simp [h1]
      have H1 := Lib.hid h1
      have H2 := Lib.hid h2
      have H3 := Lib.hid h3
      clear h1 h2 h3
      go_enter Tryz.func178, Tryz.ntmps178
      go_wp2_with fail
      refine wp_region_ext (by kernel_rfl) (by kernel_rfl) ?_
      repeat (go_big_quiet_step (fail))
      refine wpQuiet_nil ?_
      intro w1 hb1
      go_wp2
      go_ret3
      exact ⟨ret3_int (by first | exact H2.out | rfl) (by first | exact H3.out.symm | exact H1.out.trans H3.out.symm), hb1⟩
    · have hz' : ((a.tmod b) == 0) = false := by simp; omega
      have hz'' : ((a.tmod b) != 0) = true := by simp; omega
      have hr := Int.lt_tmod_of_pos a (b := b) (by omega)
      have hn1 : decide (a.tmod b < 0) = true := by simp; omega
      have hn2 : decide (b < 0) = false := by simp; omega
      have hq2 : -4611686018427387904 ≤ a.tdiv b := by
        have e1 := Int.mul_tdiv_add_tmod a b
        have e2 : a / b ≤ -1 := by have := Int.ediv_neg_of_neg_of_pos (a := a) (b := b) (by omega) (by omega); omega
        have e3 : b * a.tdiv b ≤ 2 * a.tdiv b := Int.mul_le_mul_of_nonpos_right (by omega) (by omega)
        omega
      have H2 := Lib.hid h2
      have H3 := Lib.hid h3
      clear h2 h3
      go_enter Tryz.func178, Tryz.ntmps178
      go_wp2_with fail
      refine wp_region_ext (by kernel_rfl) (by kernel_rfl) ?_
      repeat (go_big_quiet_step (fail))
      refine wpQuiet_nil ?_
      intro w1 hb1
      go_wp2
      go_ret3
      exact ⟨ret3_int H2.out H3.out, hb1⟩

set_option maxHeartbeats 400000 in
theorem idiv_wid_t (a b : Int) (w : World) (hb : 1 ≤ b) (hb2 : b ≤ 1152921504606846976) (ha1 : -9223372036854775808 ≤ a) (ha2 : a ≤ 9223372036854775807) (g2 : ((a == -9223372036854775808) : Bool) = true) :
    Calls Tryz.prog 178 #[.int .i64 a, .int .i64 b] w fun e w' => e = .returned (.tuple #[.int .i64 (a / b), .int .i64 (a - a / b * b), .int .i64 0]) ∧ Below w.heap.size w w' := by
  have g1 : ((b == 0) : Bool) = false := by simp; omega
  have g3 : ((b == -1) : Bool) = false := by simp; omega
  have hc : b * (a / b) = a / b * b := Int.mul_comm _ _
  have hmm := Int.mul_ediv_add_emod a b
  have HE : Hid (a - a / b * b = a % b) := by unfold Hid; omega
  clear hc hmm
  rw [HE.out]
  by_cases h : 0 ≤ a
  · have hm := Int.emod_nonneg a (b := b) (by omega)
    have hd := Int.ediv_nonneg h (b := b) (by omega)
    by_cases hz : a % b = 0
    · have HZ := Lib.hid hz
      have hz' : ((a % b) == 0) = true := by simp [hz]
      have hz'' : ((a % b) != 0) = false := by simp [hz]
      clear hz
      go_enter Tryz.func178, Tryz.ntmps178
      go_wp2_with fail
      refine wp_region_ext (by kernel_rfl) (by kernel_rfl) ?_
      repeat (go_big_quiet_step (fail))
      refine wpQuiet_nil ?_
      intro w1 hb1
      go_wp2
      go_ret3
      exact ⟨rfl, hb1⟩
    · have HZ := Lib.hid hz
      have hz' : ((a % b) == 0) = false := by simp [hz]
      have hz'' : ((a % b) != 0) = true := by simp [hz]
      have hn1 : decide (a % b < 0) = false := by simp; omega
      have hn2 : decide (b < 0) = false := by simp; omega
      clear hz
      go_enter Tryz.func178, Tryz.ntmps178
      go_wp2_with fail
      refine wp_region_ext (by kernel_rfl) (by kernel_rfl) ?_
      repeat (go_big_quiet_step (fail))
      refine wpQuiet_nil ?_
      intro w1 hb1
      go_wp2
      go_ret3
      exact ⟨rfl, hb1⟩
  · have hd := tdiv_neg (a := a) (b := b) (by omega) hb
    have hq := Int.natAbs_tdiv_le_natAbs a b
    have HD := Lib.hid hd
    rcases hd with ⟨h1, h2, h3⟩ | ⟨h1, h2, h3⟩
    · have hz' : ((a.tmod b) == 0) = true := by simp [h1]
      have hz'' : ((a.tmod b) != 0) = false := by simp [h1]
      have H1 := Lib.hid h1
      have H2 := Lib.hid h2
      have H3 := Lib.hid h3
      clear h1 h2 h3
      go_enter Tryz.func178, Tryz.ntmps178
      go_wp2_with fail
      refine wp_region_ext (by kernel_rfl) (by kernel_rfl) ?_
      repeat (go_big_quiet_step (fail))
      refine wpQuiet_nil ?_
      intro w1 hb1
      go_wp2
      go_ret3
      exact ⟨ret3_int (by first | exact H2.out | rfl) (by first | exact H3.out.symm | exact H1.out.trans H3.out.symm), hb1⟩
    · have hz' : ((a.tmod b) == 0) = false := by simp; omega
      have hz'' : ((a.tmod b) != 0) = true := by simp; omega
      have hr := Int.lt_tmod_of_pos a (b := b) (by omega)
      have hn1 : decide (a.tmod b < 0) = true := by simp; omega
      have hn2 : decide (b < 0) = false := by simp; omega
      have hq2 : -4611686018427387904 ≤ a.tdiv b := by
        have e1 := Int.mul_tdiv_add_tmod a b
        have e2 : a / b ≤ -1 := by have := Int.ediv_neg_of_neg_of_pos (a := a) (b := b) (by omega) (by omega); omega
        have e3 : b * a.tdiv b ≤ 2 * a.tdiv b := Int.mul_le_mul_of_nonpos_right (by omega) (by omega)
        omega
      have H2 := Lib.hid h2
      have H3 := Lib.hid h3
      clear h2 h3
      go_enter Tryz.func178, Tryz.ntmps178
      go_wp2_with fail
      refine wp_region_ext (by kernel_rfl) (by kernel_rfl) ?_
      repeat (go_big_quiet_step (fail))
      refine wpQuiet_nil ?_
      intro w1 hb1
      go_wp2
      go_ret3
      exact ⟨ret3_int H2.out H3.out, hb1⟩

theorem idiv_wid (a b : Int) (w : World) (hb : 1 ≤ b) (hb2 : b ≤ 1152921504606846976) (ha1 : -9223372036854775808 ≤ a) (ha2 : a ≤ 9223372036854775807) :
    Calls Tryz.prog 178 #[.int .i64 a, .int .i64 b] w fun e w' => e = .returned (.tuple #[.int .i64 (a / b), .int .i64 (a - a / b * b), .int .i64 0]) ∧ Below w.heap.size w w' := by
  cases g : ((a == -9223372036854775808) : Bool) with
  | false => exact idiv_wid_f a b w hb hb2 ha1 ha2 g
  | true => exact idiv_wid_t a b w hb hb2 ha1 ha2 g

set_option maxHeartbeats 400000 in
theorem imod_wid (a b : Int) (w : World) (hb : 1 ≤ b) (hb2 : b ≤ 1152921504606846976) (ha1 : -9223372036854775808 ≤ a) (ha2 : a ≤ 9223372036854775807) :
    Calls Tryz.prog 157 #[.int .i64 a, .int .i64 b] w fun e w' => e = .returned (.int .i64 (a - a / b * b)) ∧ Below w.heap.size w w' := by
  go_enter Tryz.func157, Tryz.ntmps157
  go_wp2_with (go_at_call 178; refine (idiv_wid _ _ _ hb hb2 ha1 ha2).mono ?_; rintro e w1 ⟨rfl, hb1⟩)
  go_ret
  exact ⟨rfl, hb1⟩

set_option maxHeartbeats 1000000 in
theorem phas_wid (P x : Int) (v : Value) (l : List Sp) (w : World) (h : RdS w v l) (hv : pvB P l = true) (hx1 : -9223372036854775808 ≤ x) (hx2 : x ≤ 9223372036854775807) :
    Calls Tryz.prog 243 #[.agg #[.int .i64 P, v], .int .i64 x] w fun e w' => e = .returned (.bool (hasP (P, l) x)) ∧ Below w.heap.size w w' := by
  obtain ⟨hr, hP1, hP2, hin⟩ := rvB_of_pvB hv
  have hcan := (canon_of_rvB hr).1
  have H1 := Lib.hid (fun W => imod_wid x P W hP1 (by omega) hx1 hx2)
  have H2 := Lib.hid (fun W h => bs_per v l (x - x / P * P) W h hcan)
  have HD := Lib.hid h
  obtain ⟨a, c, rfl, hl, hc⟩ := h
  clear hv hr hin
  have e0 : (w.alloc (.cells #[.int .i64 P, .slice a l.length c] 24)).cell? ⟨w.heap.size, 0, none⟩ = some (.int .i64 P) := by simp [go_sem]
  have e1 : (w.alloc (.cells #[.int .i64 P, .slice a l.length c] 24)).cell? ⟨w.heap.size, 1, none⟩ = some (.slice a l.length c) := by simp [go_sem]
  have hB0 : Below w.heap.size w (w.alloc (.cells #[.int .i64 P, .slice a l.length c] 24)) := (Below.refl _ _).alloc (Nat.le_refl _) _
  have HR := Lib.hid (HD.out.below (Nat.le_refl _) hB0)
  generalize hWe : w.alloc (.cells #[.int .i64 P, .slice a l.length c] 24) = W at *
  have HE := Lib.hid hWe
  clear hWe
  have HX : Hid (hasP (P, l) x = inL l (x - x / P * P)) := rfl
  generalize hrr : x - x / P * P = r at *
  clear hrr
  go_enter Tryz.func243, Tryz.ntmps243
  go_wp2_with fail
  rw [HE.out]
  refine (H1.out _).mono ?_
  rintro e w1 ⟨rfl, hb1⟩
  have a0 := keepCell hb1 e0
  have a1 := keepCell hb1 e1
  have hB1 := keepBelow hB0 hb1
  have HR1 := Lib.hid (keepRd hb1 HR.out)
  clear hb1
  go_wp2_with fail
  refine (H2.out _ HR1.out).mono ?_
  rintro e w2 ⟨i, hi, rfl, hb2⟩
  have b0 := keepCell hb2 a0
  have b1 := keepCell hb2 a1
  have hB2 := keepBelow hB1 hb2
  have HI := Lib.hid (inL_srch hcan hi)
  have hil := hi.1
  clear hb2 hi
  by_cases hlt : i < l.length
  · obtain ⟨b, o, y, z, rfl, hbw, HXY, d1, d2⟩ := rd_at (k := i) hc hB2 hlt
    clear hc
    go_wp2
    go_ret
    exact ⟨ret_bool (by rw [HX.out, HI.out, HXY.out]; simp [hlt]), hB2⟩
  · clear hc
    go_wp2
    go_ret
    exact ⟨ret_bool (by rw [HX.out, HI.out]; simp [hlt]), hB2⟩

set_option maxHeartbeats 1000000 in
theorem pHas_wid (P x : Int) (v : Value) (l : List Sp) (w : World) (h : RdS w v l) (hv : pvB P l = true) (hx1 : -9223372036854775808 ≤ x) (hx2 : x ≤ 9223372036854775807) :
    Calls Tryz.prog 242 #[.agg #[.int .i64 P, v], .int .i64 x] w fun e w' => e = .returned (.bool (hasP (P, l) x)) ∧ Below w.heap.size w w' := by
  have H1 := Lib.hid (fun W h => pvalid_any P v l W h)
  have H2 := Lib.hid (fun W h => phas_wid P x v l W h hv hx1 hx2)
  rw [hv] at H1
  have HD := Lib.hid h
  obtain ⟨a, c, rfl, hl, hc⟩ := h
  clear hc hv
  have e0 : (w.alloc (.cells #[.int .i64 P, .slice a l.length c] 24)).cell? ⟨w.heap.size, 0, none⟩ = some (.int .i64 P) := by simp [go_sem]
  have e1 : (w.alloc (.cells #[.int .i64 P, .slice a l.length c] 24)).cell? ⟨w.heap.size, 1, none⟩ = some (.slice a l.length c) := by simp [go_sem]
  have hB0 : Below w.heap.size w (w.alloc (.cells #[.int .i64 P, .slice a l.length c] 24)) := (Below.refl _ _).alloc (Nat.le_refl _) _
  have HR := Lib.hid (HD.out.below (Nat.le_refl _) hB0)
  generalize hWe : w.alloc (.cells #[.int .i64 P, .slice a l.length c] 24) = W at *
  have HE := Lib.hid hWe
  clear hWe
  go_enter Tryz.func242, Tryz.ntmps242
  go_wp2_with fail
  rw [HE.out]
  refine (H1.out _ HR.out).mono ?_
  rintro e w1 ⟨rfl, hb1⟩
  have a0 := keepCell hb1 e0
  have a1 := keepCell hb1 e1
  have hB1 := keepBelow hB0 hb1
  have HR1 := Lib.hid (keepRd hb1 HR.out)
  clear hb1
  go_wp2_with fail
  refine (H2.out _ HR1.out).mono ?_
  rintro e w2 ⟨rfl, hb2⟩
  go_wp2
  go_ret
  exact ⟨rfl, keepBelow hB1 hb2⟩

set_option maxHeartbeats 400000 in
theorem chas_wid (P x : Int) (v : Value) (l : List Sp) (w : World) (h : RdS w v l) (hv : pvB P l = true) (hx1 : -9223372036854775808 ≤ x) (hx2 : x ≤ 9223372036854775807) :
    Calls Tryz.prog 241 #[.agg #[.int .i64 P, v], .int .i64 x] w fun e w' => e = .returned (.bool (hasP (P, l) x)) ∧ Below w.heap.size w w' := by
  have H := Lib.hid (fun W h => pHas_wid P x v l W h hv hx1 hx2)
  have HD := Lib.hid h
  obtain ⟨a, c, rfl, hl, hc⟩ := h
  clear hc hv
  have hB0 : Below w.heap.size w (w.alloc (.cells #[.int .i64 P, .slice a l.length c] 114)) := (Below.refl _ _).alloc (Nat.le_refl _) _
  have HR := Lib.hid (keepRd hB0 HD.out)
  go_enter Tryz.func241, Tryz.ntmps241
  go_wp2_with fail
  refine (H.out _ HR.out).mono ?_
  rintro e w1 ⟨rfl, hb1⟩
  go_wp2
  go_ret
  exact ⟨rfl, keepBelow hB0 hb1⟩

set_option maxRecDepth 100000 in
set_option maxHeartbeats 1000000 in
theorem whas_wid (s : St) (vl vr vv : Value) (x : Int) (w : World) (h : RdSt w s vl vr vv) (hs : OkS s) (hx1 : -9223372036854775808 ≤ x) (hx2 : x ≤ 9223372036854775807) :
    Calls Tryz.prog 66 #[.agg #[.int .i64 s.lf.1, vl, .int .i64 s.rt.1, vr, .int .i64 s.fr, .int .i64 s.to, vv], .int .i64 x] w fun e w' => e = .returned (.bool (hasS s x)) ∧ Below w.heap.size w w' := by
  have H1 := Lib.hid (fun W h => wpart_any s vl vr vv x W h)
  have H2 := Lib.hid (fun W h => chas_wid s.lf.1 x vl s.lf.2 W h hs.lf hx1 hx2)
  have H3 := Lib.hid (fun W h => bhas_any x vv s.l W h hs.l)
  have H4 := Lib.hid (fun W h => chas_wid s.rt.1 x vr s.rt.2 W h hs.rt hx1 hx2)
  have hft := hs.ft
  have HD := Lib.hid h
  obtain ⟨al, cl, rfl⟩ := h.1.form
  obtain ⟨ar, cr, rfl⟩ := h.2.1.form
  obtain ⟨av, cv, rfl⟩ := h.2.2.form
  clear h hs
  have q1 := m_chas
  have q2 := m_bhas
  go_enter Tryz.func66, Tryz.ntmps66
  go_wp2_with fail
  refine (H1.out _ (keepSt ((Below.refl _ w).alloc (Nat.le_refl _) _) HD.out)).mono ?_
  rintro e w1 ⟨rfl, hb1⟩
  have hB1 := keepBelow ((Below.refl _ w).alloc (Nat.le_refl _) _) hb1
  have HR1 := Lib.hid (keepSt hB1 HD.out)
  clear hb1
  unfold partV
  by_cases h1 : x < s.fr
  · rw [if_pos h1]
    have HX := Lib.hid (hasS_lf h1)
    go_wp2_with fail
    refine (H2.out _ HR1.out.1).mono ?_
    rintro e w2 ⟨rfl, hb2⟩
    go_wp2
    go_ret
    exact ⟨ret_bool HX.out.symm, keepBelow hB1 hb2⟩
  · rw [if_neg h1]
    by_cases h2 : x < s.to
    · rw [if_pos h2]
      have HX := Lib.hid (hasS_mid (by omega) h2)
      go_wp2_with fail
      refine (H3.out _ HR1.out.2.2).mono ?_
      rintro e w2 ⟨rfl, hb2⟩
      go_wp2
      go_ret
      exact ⟨ret_bool HX.out.symm, keepBelow hB1 hb2⟩
    · rw [if_neg h2]
      have HX := Lib.hid (hasS_rt hft (by omega : s.to ≤ x))
      go_wp2_with fail
      refine (H4.out _ HR1.out.2.1).mono ?_
      rintro e w2 ⟨rfl, hb2⟩
      go_wp2
      go_ret
      exact ⟨ret_bool HX.out.symm, keepBelow hB1 hb2⟩

set_option maxHeartbeats 1000000 in
theorem thas_wid (s : St) (vl vr vv : Value) (x : Int) (w : World) (h : RdSt w s vl vr vv) (hx1 : -9223372036854775808 ≤ x) (hx2 : x ≤ 9223372036854775807) :
    Calls Tryz.prog 21 #[.agg #[.int .i64 s.lf.1, vl, .int .i64 s.rt.1, vr, .int .i64 s.fr, .int .i64 s.to, vv], .int .i64 x] w fun e w' => e = .returned (.bool (VB s && hasS s x)) ∧ Below w.heap.size w w' := by
  have H1 := Lib.hid (fun W h => tvalid_any s vl vr vv W h)
  have H2 := Lib.hid (fun (hg : VB s = true) W h => whas_wid s vl vr vv x W h (okS_of_VB hg) hx1 hx2)
  obtain ⟨g, hg⟩ : ∃ g, VB s = g := ⟨_, rfl⟩
  rw [hg] at H1 ⊢
  have HG := Lib.hid hg
  clear hg
  obtain ⟨hh, hhe⟩ : ∃ hh, hasS s x = hh := ⟨_, rfl⟩
  rw [hhe] at H2 ⊢
  clear hhe
  obtain ⟨⟨P, l⟩, ⟨Q, m⟩, f, t, k⟩ := s
  have HR0 := Lib.hid h
  obtain ⟨a1, n1, rfl⟩ := h.1.form
  obtain ⟨a2, n2, rfl⟩ := h.2.1.form
  obtain ⟨a3, n3, rfl⟩ := h.2.2.form
  clear h
  simp only at H1 H2 ⊢
  obtain ⟨W, hWe⟩ : ∃ W, w.alloc (.cells #[.int .i64 P, .slice a1 l.length n1, .int .i64 Q, .slice a2 m.length n2, .int .i64 f, .int .i64 t, .slice a3 k.length n3] 26) = W := ⟨_, rfl⟩
  have hW : Below w.heap.size w W := by rw [← hWe]; exact (Below.refl _ w).alloc (Nat.le_refl _) _
  have HX : Hid (Set7 W w.heap.size (.int .i64 P) (.slice a1 l.length n1) (.int .i64 Q) (.slice a2 m.length n2) (.int .i64 f) (.int .i64 t) (.slice a3 k.length n3)) := by
    rw [← hWe]
    refine ⟨⟨?_, ?_, ?_, ?_, ?_, ?_, ?_⟩, ?_, ?_, ?_, ?_, ?_, ?_, ?_⟩ <;> simp [go_sem]
  have HR := Lib.hid (keepSt hW HR0.out)
  have HE := Lib.hid hWe
  clear hWe
  obtain ⟨⟨B0, B1, B2, B3, B4, B5, B6⟩, _⟩ := HX.out
  go_enter Tryz.func21, Tryz.ntmps21
  go_wp2_with fail
  rw [HE.out]
  go_wp2_with fail
  refine (H1.out _ HR.out).mono ?_
  rintro e w1 ⟨rfl, hb1⟩
  have HX1 := Lib.hid (HX.out.below hb1)
  have HR1 := Lib.hid (keepSt hb1 HR.out)
  have hB1 := keepBelow hW hb1
  clear hb1 B0 B1 B2 B3 B4 B5 B6 HX HR HE hW
  cases g with
  | false =>
    go_wp2
    go_ret
    exact ⟨rfl, hB1⟩
  | true =>
  obtain ⟨⟨B0, B1, B2, B3, B4, B5, B6⟩, _⟩ := HX1.out
  go_wp2_with fail
  refine (H2.out HG.out _ HR1.out).mono ?_
  rintro e w2 ⟨rfl, hb2⟩
  go_wp2
  go_ret
  exact ⟨ret_bool (by simp), keepBelow hB1 hb2⟩

set_option maxHeartbeats 400000 in
theorem rdiv_wid_f (a b : Int) (w : World) (hb : 1 ≤ b) (hb2 : b ≤ 1152921504606846976) (ha1 : -9223372036854775808 ≤ a) (ha2 : a ≤ 9223372036854775807) (g2 : ((a == -9223372036854775808) : Bool) = false) :
    Calls Tryz.prog 160 #[.int .i64 a, .int .i64 b] w fun e w' => e = .returned (.tuple #[.int .i64 (a / b), .int .i64 (a % b), .int .i64 0]) ∧ Below w.heap.size w w' := by
  have g1 : ((b == 0) : Bool) = false := by simp; omega
  have g3 : ((b == -1) : Bool) = false := by simp; omega
  have hc : b * (a / b) = a / b * b := Int.mul_comm _ _
  have hmm := Int.mul_ediv_add_emod a b
  have HE : Hid (a - a / b * b = a % b) := by unfold Hid; omega
  clear hc hmm
  by_cases h : 0 ≤ a
  · have hm := Int.emod_nonneg a (b := b) (by omega)
    have hd := Int.ediv_nonneg h (b := b) (by omega)
    by_cases hz : a % b = 0
    · have HZ := Lib.hid hz
      have hz' : ((a % b) == 0) = true := by simp [hz]
      have hz'' : ((a % b) != 0) = false := by simp [hz]
      clear hz
      go_enter Tryz.func160, Tryz.ntmps160
      go_wp2_with fail
      refine wp_region_ext (by kernel_rfl) (by kernel_rfl) ?_
      repeat (go_big_quiet_step (fail))
      refine wpQuiet_nil ?_
      intro w1 hb1
      go_wp2
      go_ret3
      exact ⟨rfl, hb1⟩
    · have HZ := Lib.hid hz
      have hz' : ((a % b) == 0) = false := by simp [hz]
      have hz'' : ((a % b) != 0) = true := by simp [hz]
      have hn1 : decide (a % b < 0) = false := by simp; omega
      have hn2 : decide (b < 0) = false := by simp; omega
      clear hz
      go_enter Tryz.func160, Tryz.ntmps160
      go_wp2_with fail
      refine wp_region_ext (by kernel_rfl) (by kernel_rfl) ?_
      repeat (go_big_quiet_step (fail))
      refine wpQuiet_nil ?_
      intro w1 hb1
      go_wp2
      go_ret3
      exact ⟨rfl, hb1⟩
  · have hd := tdiv_neg (a := a) (b := b) (by omega) hb
    have hq := Int.natAbs_tdiv_le_natAbs a b
    have HD := Lib.hid hd
    rcases hd with ⟨h1, h2, h3⟩ | ⟨h1, h2, h3⟩
    · have hz' : ((a.tmod b) == 0) = true := by simp [h1]
      have hz'' : ((a.tmod b) != 0) = false := by simp [h1]
      have H1 := Lib.hid h1
      have H2 := Lib.hid h2
      have H3 := Lib.hid h3
      clear h1 h2 h3
      go_enter Tryz.func160, Tryz.ntmps160
      go_wp2_with fail
      refine wp_region_ext (by kernel_rfl) (by kernel_rfl) ?_
      repeat (go_big_quiet_step (fail))
      refine wpQuiet_nil ?_
      intro w1 hb1
      go_wp2
      go_ret3
      exact ⟨ret3_int (by first | exact H2.out | rfl) (by first | exact H3.out.symm | exact H1.out.trans H3.out.symm), hb1⟩
    · have hz' : ((a.tmod b) == 0) = false := by simp; omega
      have hz'' : ((a.tmod b) != 0) = true := by simp; omega
      have hr := Int.lt_tmod_of_pos a (b := b) (by omega)
      have hn1 : decide (a.tmod b < 0) = true := by simp; omega
      have hn2 : decide (b < 0) = false := by simp; omega
      have hq2 : -4611686018427387904 ≤ a.tdiv b := by
        have e1 := Int.mul_tdiv_add_tmod a b
        have e2 : a / b ≤ -1 := by have := Int.ediv_neg_of_neg_of_pos (a := a) (b := b) (by omega) (by omega); omega
        have e3 : b * a.tdiv b ≤ 2 * a.tdiv b := Int.mul_le_mul_of_nonpos_right (by omega) (by omega)
        omega
      have H2 := Lib.hid h2
      have H3 := Lib.hid h3
      clear h2 h3
      go_enter Tryz.func160, Tryz.ntmps160
      go_wp2_with fail
      refine wp_region_ext (by kernel_rfl) (by kernel_rfl) ?_
      repeat (go_big_quiet_step (fail))
      refine wpQuiet_nil ?_
      intro w1 hb1
      go_wp2
      go_ret3
      exact ⟨ret3_int H2.out H3.out, hb1⟩

set_option maxHeartbeats 400000 in
theorem rdiv_wid_t (a b : Int) (w : World) (hb : 1 ≤ b) (hb2 : b ≤ 1152921504606846976) (ha1 : -9223372036854775808 ≤ a) (ha2 : a ≤ 9223372036854775807) (g2 : ((a == -9223372036854775808) : Bool) = true) :
    Calls Tryz.prog 160 #[.int .i64 a, .int .i64 b] w fun e w' => e = .returned (.tuple #[.int .i64 (a / b), .int .i64 (a % b), .int .i64 0]) ∧ Below w.heap.size w w' := by
  have g1 : ((b == 0) : Bool) = false := by simp; omega
  have g3 : ((b == -1) : Bool) = false := by simp; omega
  have hc : b * (a / b) = a / b * b := Int.mul_comm _ _
  have hmm := Int.mul_ediv_add_emod a b
  have HE : Hid (a - a / b * b = a % b) := by unfold Hid; omega
  clear hc hmm
  by_cases h : 0 ≤ a
  · have hm := Int.emod_nonneg a (b := b) (by omega)
    have hd := Int.ediv_nonneg h (b := b) (by omega)
    by_cases hz : a % b = 0
    · have HZ := Lib.hid hz
      have hz' : ((a % b) == 0) = true := by simp [hz]
      have hz'' : ((a % b) != 0) = false := by simp [hz]
      clear hz
      go_enter Tryz.func160, Tryz.ntmps160
      go_wp2_with fail
      refine wp_region_ext (by kernel_rfl) (by kernel_rfl) ?_
      repeat (go_big_quiet_step (fail))
      refine wpQuiet_nil ?_
      intro w1 hb1
      go_wp2
      go_ret3
      exact ⟨rfl, hb1⟩
    · have HZ := Lib.hid hz
      have hz' : ((a % b) == 0) = false := by simp [hz]
      have hz'' : ((a % b) != 0) = true := by simp [hz]
      have hn1 : decide (a % b < 0) = false := by simp; omega
      have hn2 : decide (b < 0) = false := by simp; omega
      clear hz
      go_enter Tryz.func160, Tryz.ntmps160
      go_wp2_with fail
      refine wp_region_ext (by kernel_rfl) (by kernel_rfl) ?_
      repeat (go_big_quiet_step (fail))
      refine wpQuiet_nil ?_
      intro w1 hb1
      go_wp2
      go_ret3
      exact ⟨rfl, hb1⟩
  · have hd := tdiv_neg (a := a) (b := b) (by omega) hb
    have hq := Int.natAbs_tdiv_le_natAbs a b
    have HD := Lib.hid hd
    rcases hd with ⟨h1, h2, h3⟩ | ⟨h1, h2, h3⟩
    · have hz' : ((a.tmod b) == 0) = true := by simp [h1]
      have hz'' : ((a.tmod b) != 0) = false := by simp [h1]
      have H1 := Lib.hid h1
      have H2 := Lib.hid h2
      have H3 := Lib.hid h3
      clear h1 h2 h3
      go_enter Tryz.func160, Tryz.ntmps160
      go_wp2_with fail
      refine wp_region_ext (by kernel_rfl) (by kernel_rfl) ?_
      repeat (go_big_quiet_step (fail))
      refine wpQuiet_nil ?_
      intro w1 hb1
      go_wp2
      go_ret3
      exact ⟨ret3_int (by first | exact H2.out | rfl) (by first | exact H3.out.symm | exact H1.out.trans H3.out.symm), hb1⟩
    · have hz' : ((a.tmod b) == 0) = false := by simp; omega
      have hz'' : ((a.tmod b) != 0) = true := by simp; omega
      have hr := Int.lt_tmod_of_pos a (b := b) (by omega)
      have hn1 : decide (a.tmod b < 0) = true := by simp; omega
      have hn2 : decide (b < 0) = false := by simp; omega
      have hq2 : -4611686018427387904 ≤ a.tdiv b := by
        have e1 := Int.mul_tdiv_add_tmod a b
        have e2 : a / b ≤ -1 := by have := Int.ediv_neg_of_neg_of_pos (a := a) (b := b) (by omega) (by omega); omega
        have e3 : b * a.tdiv b ≤ 2 * a.tdiv b := Int.mul_le_mul_of_nonpos_right (by omega) (by omega)
        omega
      have H2 := Lib.hid h2
      have H3 := Lib.hid h3
      clear h2 h3
      go_enter Tryz.func160, Tryz.ntmps160
      go_wp2_with fail
      refine wp_region_ext (by kernel_rfl) (by kernel_rfl) ?_
      repeat (go_big_quiet_step (fail))
      refine wpQuiet_nil ?_
      intro w1 hb1
      go_wp2
      go_ret3
      exact ⟨ret3_int H2.out H3.out, hb1⟩

theorem rdiv_wid (a b : Int) (w : World) (hb : 1 ≤ b) (hb2 : b ≤ 1152921504606846976) (ha1 : -9223372036854775808 ≤ a) (ha2 : a ≤ 9223372036854775807) :
    Calls Tryz.prog 160 #[.int .i64 a, .int .i64 b] w fun e w' => e = .returned (.tuple #[.int .i64 (a / b), .int .i64 (a % b), .int .i64 0]) ∧ Below w.heap.size w w' := by
  cases g : ((a == -9223372036854775808) : Bool) with
  | false => exact rdiv_wid_f a b w hb hb2 ha1 ha2 g
  | true => exact rdiv_wid_t a b w hb hb2 ha1 ha2 g

theorem rmod_wid (a b : Int) (w : World) (hb : 1 ≤ b) (hb2 : b ≤ 1152921504606846976) (ha1 : -9223372036854775808 ≤ a) (ha2 : a ≤ 9223372036854775807) :
    Calls Tryz.prog 120 #[.int .i64 a, .int .i64 b] w fun e w' => e = .returned (.int .i64 (a % b)) ∧ Below w.heap.size w w' := by
  go_enter Tryz.func120, Tryz.ntmps120
  go_wp2_with (go_at_call 160; refine (rdiv_wid _ _ _ hb hb2 ha1 ha2).mono ?_; rintro e w1 ⟨rfl, hb1⟩)
  go_ret
  exact ⟨rfl, hb1⟩

set_option maxHeartbeats 1000000 in
theorem has13_wid (P z : Int) (v : Value) (l : List Sp) (w : World) (h : RdS w v l) (hP1 : 1 ≤ P) (hP2 : P ≤ 12622780800) (hz1 : -9223372036854775808 ≤ z) (hz2 : z ≤ 9223372036854775807) :
    Calls Tryz.prog 67 #[.agg #[.int .i64 P, v], .int .i64 z] w fun e w' => e = .returned (.bool (hasP (P, l) z)) ∧ Below w.heap.size w w' := by
  have HMOD := Lib.hid (fun W => rmod_wid z P W hP1 (by omega) hz1 hz2)
  obtain ⟨a, c, rfl, hl, hc⟩ := h
  obtain ⟨W, hWe⟩ : ∃ W, w.alloc (.cells #[.int .i64 P, .slice a l.length c] 24) = W := ⟨_, rfl⟩
  have hB0 : Below w.heap.size w W := by rw [← hWe]; exact (Below.refl _ _).alloc (Nat.le_refl _) _
  have c0 : W.cell? ⟨w.heap.size, 0, none⟩ = some (.int .i64 P) := by rw [← hWe]; simp [go_sem]
  have c1 : W.cell? ⟨w.heap.size, 1, none⟩ = some (.slice a l.length c) := by rw [← hWe]; simp [go_sem]
  have HE := Lib.hid hWe
  have HC := Lib.hid hc
  clear hWe hc
  have HR : Hid (hasP (P, l) z = inL l (z % P)) := by unfold Hid hasP; rw [mod_eq]
  obtain ⟨r, hr⟩ : ∃ r, z % P = r := ⟨_, rfl⟩
  rw [hr] at HR HMOD
  clear hr
  go_enter Tryz.func67, Tryz.ntmps67
  go_wp2_with fail
  rw [HE.out]
  go_wp2_with fail
  refine (HMOD.out _).mono ?_
  rintro e w1 ⟨rfl, hb1⟩
  have k0 := keepCell hb1 c0
  have k1 := keepCell hb1 c1
  have hB1 := keepBelow hB0 hb1
  clear c0 c1
  go_wp2_with fail
  go_loopw [6] (fun i wr => ∃ k : Nat, i = .int .i64 k ∧ k ≤ l.length ∧ Hid (∀ j, j < k → (l.getD j (0, 0)).2 ≤ r ∨ r < (l.getD j (0, 0)).1) ∧ Below w1.heap.size w1 wr) (fun i _ => l.length - (intOf i).toNat)
  case atStart => exact ⟨0, rfl, Nat.zero_le _, fun j hj => by omega, Below.refl _ _⟩
  case round =>
    obtain ⟨k, rfl, hk, HJ, hB⟩ := hrel
    have hBn := keepBelow hB1 hB
    have m0 := keepCell hB k0
    have m1 := keepCell hB k1
    by_cases hlt : k < l.length
    · obtain ⟨b, o, x, y, rfl, hbw, HXY, d1, d2⟩ := rd_at HC.out hBn hlt
      cases g1 : decide (x ≤ r) with
      | false =>
        have HJ2 : Hid (∀ j, j < k + 1 → (l.getD j (0, 0)).2 ≤ r ∨ r < (l.getD j (0, 0)).1) := fun j hj => by
          rcases Nat.lt_succ_iff_lt_or_eq.1 hj with h | rfl
          · exact HJ.out j h
          · rw [HXY.out]; simp at g1; exact .inr g1
        go_wp2
        go_roundw
        case rel => exact ⟨k + 1, by go_num, by omega, HJ2, hB⟩
        case measure => simp [intOf]; omega
      | true =>
        cases g2 : decide (r < y) with
        | false =>
          have HJ2 : Hid (∀ j, j < k + 1 → (l.getD j (0, 0)).2 ≤ r ∨ r < (l.getD j (0, 0)).1) := fun j hj => by
            rcases Nat.lt_succ_iff_lt_or_eq.1 hj with h | rfl
            · exact HJ.out j h
            · rw [HXY.out]; simp at g2; exact .inl g2
          go_wp2
          go_roundw
          case rel => exact ⟨k + 1, by go_num, by omega, HJ2, hB⟩
          case measure => simp [intOf]; omega
        | true =>
          have HT : Hid (hasP (P, l) z = true) := HR.out.trans (inL_of_mem (mem_of_getD HXY.out hlt) (by simpa using g1) (by simpa using g2))
          go_wp2
          go_ret
          exact ⟨ret_bool HT.out.symm, hBn⟩
    · have HT : Hid (hasP (P, l) z = false) := HR.out.trans (no_mem fun j hj => HJ.out j (by omega))
      go_wp2
      go_ret
      exact ⟨ret_bool HT.out.symm, hBn⟩

set_option maxHeartbeats 2000000 in
theorem has14_wid (s : St) (vl vr vv : Value) (x : Int) (w : World) (h : RdSt w s vl vr vv) (hs : OkS s) (hx1 : -9223372036854775808 ≤ x) (hx2 : x ≤ 9223372036854775807) :
    Calls Tryz.prog 22 #[.agg #[.int .i64 s.lf.1, vl, .int .i64 s.rt.1, vr, .int .i64 s.fr, .int .i64 s.to, vv], .int .i64 x] w fun e w' => e = .returned (.bool (hasS s x)) ∧ Below w.heap.size w w' := by
  obtain ⟨_, hP1, hP2, _⟩ := rvB_of_pvB hs.lf
  obtain ⟨_, hQ1, hQ2, _⟩ := rvB_of_pvB hs.rt
  have C1 := Lib.hid (fun W (h : RdS W vl s.lf.2) => has13_wid s.lf.1 x vl s.lf.2 W h hP1 hP2 hx1 hx2)
  have C2 := Lib.hid (fun W (h : RdS W vr s.rt.2) => has13_wid s.rt.1 x vr s.rt.2 W h hQ1 hQ2 hx1 hx2)
  have C3 := Lib.hid (fun W (h : RdS W vv s.l) => in12_any vv s.l x W h)
  have hft := hs.ft
  have HHS : Hid (hasS s x = if x < s.fr then hasP s.lf x else if x < s.to then inL s.l x else hasP s.rt x) := rfl
  have HR0 := Lib.hid h
  obtain ⟨a1, n1, rfl⟩ := h.1.form
  obtain ⟨a2, n2, rfl⟩ := h.2.1.form
  obtain ⟨a3, n3, rfl⟩ := h.2.2.form
  clear h
  obtain ⟨W, hWe⟩ : ∃ W, w.alloc (.cells #[.int .i64 s.lf.1, .slice a1 s.lf.2.length n1, .int .i64 s.rt.1, .slice a2 s.rt.2.length n2, .int .i64 s.fr, .int .i64 s.to, .slice a3 s.l.length n3] 26) = W := ⟨_, rfl⟩
  have hW : Below w.heap.size w W := by rw [← hWe]; exact (Below.refl _ w).alloc (Nat.le_refl _) _
  have HX : Hid (Set7 W w.heap.size (.int .i64 s.lf.1) (.slice a1 s.lf.2.length n1) (.int .i64 s.rt.1) (.slice a2 s.rt.2.length n2) (.int .i64 s.fr) (.int .i64 s.to) (.slice a3 s.l.length n3)) := by
    rw [← hWe]
    refine ⟨⟨?_, ?_, ?_, ?_, ?_, ?_, ?_⟩, ?_, ?_, ?_, ?_, ?_, ?_, ?_⟩ <;> simp [go_sem]
  have HR := Lib.hid (keepSt hW HR0.out)
  have HE := Lib.hid hWe
  clear hWe
  obtain ⟨⟨B0, B1, B2, B3, B4, B5, B6⟩, _⟩ := HX.out
  by_cases h1 : x < s.fr
  · have t1 : decide (x < s.fr) = true := by simpa using h1
    rw [if_pos h1] at HHS
    rw [HHS.out]
    clear h1
    go_enter Tryz.func22, Tryz.ntmps22
    go_wp2_with fail
    rw [HE.out]
    go_wp2_with fail
    refine (C1.out _ HR.out.1).mono ?_
    rintro e w1 ⟨rfl, hb1⟩
    have hB1 := keepBelow hW hb1
    clear B0 B1 B2 B3 B4 B5 B6
    go_wp2
    go_ret
    exact ⟨rfl, hB1⟩
  · have t1 : decide (x < s.fr) = false := by simpa using h1
    rw [if_neg h1] at HHS
    clear h1
    by_cases h2 : x < s.to
    · have t2 : decide (x < s.to) = true := by simpa using h2
      rw [if_pos h2] at HHS
      rw [HHS.out]
      clear h2
      go_enter Tryz.func22, Tryz.ntmps22
      go_wp2_with fail
      rw [HE.out]
      go_wp2_with fail
      refine (C3.out _ HR.out.2.2).mono ?_
      rintro e w1 ⟨rfl, hb1⟩
      have hB1 := keepBelow hW hb1
      clear B0 B1 B2 B3 B4 B5 B6
      go_wp2
      go_ret
      exact ⟨rfl, hB1⟩
    · have t2 : decide (x < s.to) = false := by simpa using h2
      rw [if_neg h2] at HHS
      rw [HHS.out]
      clear h2
      go_enter Tryz.func22, Tryz.ntmps22
      go_wp2_with fail
      rw [HE.out]
      go_wp2_with fail
      refine (C2.out _ HR.out.2.1).mono ?_
      rintro e w1 ⟨rfl, hb1⟩
      have hB1 := keepBelow hW hb1
      clear B0 B1 B2 B3 B4 B5 B6
      go_wp2
      go_ret
      exact ⟨rfl, hB1⟩

end Go.Proofs.YtnjpceocnldlfaaGreat
