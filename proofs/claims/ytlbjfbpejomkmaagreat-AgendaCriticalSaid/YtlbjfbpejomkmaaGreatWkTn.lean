import Derived.Test.YtlbjfbpejomkmaaGreatWkVal
import Derived.Test.YtlbjfbpejomkmaaGreatWkBd
import Derived.Test.YtlbjfbpejomkmaaGreatWkPl
/- work: line, amount, rank, nth. -/
namespace Go.Proofs.YtlbjfbpejomkmaaGreat
open Go.RowKit Wk

theorem kline_any (x : Int) (w : World) :
  Calls Tryz.prog 125 #[.int .i64 x] w fun e w' => e = .returned (.bool (lineB x)) ∧ w = w' := by
 go_enter Tryz.func125, Tryz.ntmps125
 go_wp2
 all_goals go_ret
 all_goals exact ⟨ret_bool (by rw [Bool.eq_iff_iff]; simp [lineB]; omega), rfl⟩
theorem amount_any (x : Int) (w : World) :
  Calls Tryz.prog 188 #[.int .i64 x] w fun e w' => e = .returned (.bool (amountB x)) ∧ w = w' := by
 go_enter Tryz.func188, Tryz.ntmps188
 go_wp2
 all_goals go_ret
 all_goals exact ⟨ret_bool (by rw [Bool.eq_iff_iff]; simp [amountB]; omega), rfl⟩

theorem div_meas {P x ms : Int} (hP : 1 ≤ P) (h0 : 0 ≤ ms) (h1 : ms ≤ P) : (0 ≤ x → 0 ≤ x / P * ms ∧ x / P * ms ≤ x) ∧ (x ≤ 0 → x - P < x / P * ms ∧ x / P * ms ≤ 0) := by
 have hm := mod_lo x hP
 constructor
 ·intro hx
  have hk : 0 ≤ x / P := Int.ediv_nonneg hx (by omega)
  have h2 : x / P * ms ≤ x / P * P := Int.mul_le_mul_of_nonneg_left h1 hk
  have h3 : 0 ≤ x / P * ms := Int.mul_nonneg hk h0
  omega
 ·intro hx
  have hk : x / P ≤ 0 := by
   apply Decidable.byContradiction
   intro hc
   have : 1 * P ≤ x / P * P := Int.mul_le_mul_of_nonneg_right (by omega) (by omega)
   omega
  have h2 : x / P * P ≤ x / P * ms := Int.mul_le_mul_of_nonpos_left hk h1
  have h3 : x / P * ms ≤ 0 := Int.mul_nonpos_of_nonpos_of_nonneg hk h0
  omega

set_option maxHeartbeats 1000000 in
theorem wrank_any (P x : Int) (v : Value) (l : List Sp) (w : World) (h : RdS w v l) (hv : pvB P l = true) (hx1 : -8796093022208 ≤ x) (hx2 : x ≤ 8796093022208) :
  Calls Tryz.prog 163 #[.agg #[.int .i64 P, v], .int .i64 x] w fun e w' => e = .returned (.int .i64 (rankP (P, l) x)) ∧ Below w.heap.size w w' := by
 obtain ⟨hr, hP1, hP2, hin⟩ := rvB_of_pvB hv
 have hgp := goodP_of_pvB hv
 have hms := meas_le hgp
 have hbd := rankP_bd hgp x
 have hrb := rank_bounds (x - x / P * P) hgp.canon
 have hdm := div_meas (x := x) hP1 hms.1 hms.2
 have hmo := mod_lo x hP1
 have HEQ : Hid (rankP (P, l) x = x / P * meas l + rank l (x - x / P * P)) := rfl
 simp only at hms hrb hdm
 have H1 := Lib.hid (fun W => wfloor_any x P W hP1 (by omega) (by omega) (by omega))
 have H2 := Lib.hid (fun W h => rmeas_any v l W h hr)
 have H3 := Lib.hid (fun W h => rrank_any v l (x - x / P * P) W h hr)
 have HD := Lib.hid h
 obtain ⟨a, c, rfl⟩ := h.form
 clear h hv hgp hin hr
 obtain ⟨W, hWe⟩ : ∃ W, w.alloc (.cells #[.int .i64 P, .slice a l.length c] 52) = W := ⟨_, rfl⟩
 have hB0 : Below w.heap.size w W := by rw [← hWe]; exact (Below.refl _ _).alloc (Nat.le_refl _) _
 have c0 : W.cell? ⟨w.heap.size, 0, none⟩ = some (.int .i64 P) := by rw [← hWe]; simp [go_sem]
 have c1 : W.cell? ⟨w.heap.size, 1, none⟩ = some (.slice a l.length c) := by rw [← hWe]; simp [go_sem]
 have HR := Lib.hid (keepRd hB0 HD.out)
 have HE := Lib.hid hWe
 clear hWe HD
 obtain ⟨q, hq⟩ : ∃ q, x / P = q := ⟨_, rfl⟩
 rw [hq] at H1 H3 HEQ hrb hdm hmo
 obtain ⟨ms, hmse⟩ : ∃ ms, meas l = ms := ⟨_, rfl⟩
 rw [hmse] at H2 HEQ hrb hdm hms
 obtain ⟨rk, hrk⟩ : ∃ rk, rank l (x - q * P) = rk := ⟨_, rfl⟩
 rw [hrk] at H3 HEQ hrb
 obtain ⟨qp, hqp⟩ : ∃ qp, q * P = qp := ⟨_, rfl⟩
 obtain ⟨qm, hqm⟩ : ∃ qm, q * ms = qm := ⟨_, rfl⟩
 rw [hqp] at H3 hmo
 rw [hqm] at HEQ hdm
 rw [HEQ.out] at hbd ⊢
 have s1 : IntKind.i64.wrap (q * P) = qp := by rw [IntKind.wrap_i64, hqp]; omega
 have s2 : IntKind.i64.wrap (q * ms) = qm := by rw [IntKind.wrap_i64, hqm]; omega
 have s3 : IntKind.i64.wrap (x - qp) = x - qp := by rw [IntKind.wrap_i64]; omega
 have s4 : IntKind.i64.wrap (qm + rk) = qm + rk := by rw [IntKind.wrap_i64]; omega
 clear hq hmse hrk hqp hqm HEQ
 go_enter Tryz.func163, Tryz.ntmps163
 go_wp2_with fail
 rw [HE.out]
 go_wp2_with fail
 refine (H1.out _).mono ?_
 rintro e w1 ⟨rfl, rfl⟩
 have e0 := ext_cell c0
 have e1 := ext_cell c1
 have ER := Lib.hid (ext_rd HR.out)
 go_wp2_with fail
 refine wp_region_ext (by kernel_rfl) (by kernel_rfl) ?_
 repeat (go_big_quiet_step (first
  | (go_at_call 191; refine calls_ext (H2.out _ (ER.out _)))
  | (go_at_call 164; refine calls_ext (H3.out _ (ER.out _)))))
 refine wpQuiet_nil ?_
 intro w1 hb1
 go_wp2
 go_ret
 exact ⟨rfl, keepBelow hB0 hb1⟩

set_option maxHeartbeats 1000000 in
theorem wnth_any (P n : Int) (v : Value) (l : List Sp) (w : World) (h : RdS w v l) (hv : pvB P l = true) (hm : 0 < meas l) (hx1 : -8796093022208 ≤ nthP (P, l) n) (hx2 : nthP (P, l) n ≤ 8796093022208) :
  Calls Tryz.prog 211 #[.agg #[.int .i64 P, v], .int .i64 n] w fun e w' => e = .returned (.int .i64 (nthP (P, l) n)) ∧ Below w.heap.size w w' := by
 obtain ⟨hr, hP1, hP2, hin⟩ := rvB_of_pvB hv
 have hgp := goodP_of_pvB hv
 have hms := meas_le hgp
 have hnr := (nthP_spec hgp n hm).1
 have hbd := rankP_bd hgp (nthP (P, l) n)
 rw [hnr] at hbd
 have hmo := mod_lo n (P := meas l) (by omega)
 have hni := nth_in hgp.canon hgp.ins hmo.1 hmo.2
 have HEQ : Hid (nthP (P, l) n = n / meas l * P + nth l (n - n / meas l * meas l)) := rfl
 simp only at hms hni
 have H1 := Lib.hid (fun W h => rmeas_any v l W h hr)
 have H2 := Lib.hid (fun W => wfloor_any n (meas l) W (by omega) (by omega) (by omega) (by omega))
 have H3 := Lib.hid (fun W h => rnth_any v l (n - n / meas l * meas l) W h hr hmo.1 hmo.2)
 obtain ⟨a, c, rfl⟩ := h.form
 obtain ⟨W, hWe⟩ : ∃ W, w.alloc (.cells #[.int .i64 P, .slice a l.length c] 52) = W := ⟨_, rfl⟩
 have hB0 : Below w.heap.size w W := by rw [← hWe]; exact (Below.refl _ _).alloc (Nat.le_refl _) _
 have c0 : W.cell? ⟨w.heap.size, 0, none⟩ = some (.int .i64 P) := by rw [← hWe]; simp [go_sem]
 have c1 : W.cell? ⟨w.heap.size, 1, none⟩ = some (.slice a l.length c) := by rw [← hWe]; simp [go_sem]
 have HR := Lib.hid (keepRd hB0 h)
 have HE := Lib.hid hWe
 clear hWe h hv hgp hin hr hnr
 obtain ⟨q, hq⟩ : ∃ q, n / meas l = q := ⟨_, rfl⟩
 rw [hq] at H2 H3 HEQ hmo hni
 obtain ⟨ms, hmse⟩ : ∃ ms, meas l = ms := ⟨_, rfl⟩
 rw [hmse] at H1 H2 H3 HEQ hmo hms hm hni
 obtain ⟨nt, hnt⟩ : ∃ nt, nth l (n - q * ms) = nt := ⟨_, rfl⟩
 rw [hnt] at H3 HEQ hni
 obtain ⟨qp, hqp⟩ : ∃ qp, q * P = qp := ⟨_, rfl⟩
 obtain ⟨qm, hqm⟩ : ∃ qm, q * ms = qm := ⟨_, rfl⟩
 rw [hqm] at H3 hmo
 rw [hqp] at HEQ
 rw [HEQ.out] at hx1 hx2 hbd ⊢
 have s1 : IntKind.i64.wrap (q * P) = qp := by rw [IntKind.wrap_i64, hqp]; omega
 have s2 : IntKind.i64.wrap (q * ms) = qm := by rw [IntKind.wrap_i64, hqm]; omega
 have s3 : IntKind.i64.wrap (n - qm) = n - qm := by rw [IntKind.wrap_i64]; omega
 have s4 : IntKind.i64.wrap (qp + nt) = qp + nt := by rw [IntKind.wrap_i64]; omega
 clear hq hmse hnt hqp hqm HEQ
 go_enter Tryz.func211, Tryz.ntmps211
 go_wp2_with fail
 rw [HE.out]
 go_wp2_with fail
 refine (H1.out _ HR.out).mono ?_
 rintro e w1 ⟨rfl, hb1⟩
 have d0 := keepCell hb1 c0
 have d1 := keepCell hb1 c1
 have hB1 := keepBelow hB0 hb1
 have HR1 := Lib.hid (keepRd hb1 HR.out)
 clear hb1 c0 c1
 go_wp2_with fail
 refine (H2.out _).mono ?_
 rintro e w2 ⟨rfl, rfl⟩
 go_wp2_with fail
 refine (H3.out _ HR1.out).mono ?_
 rintro e w3 ⟨rfl, hb3⟩
 have e0 := keepCell hb3 d0
 have hB3 := keepBelow hB1 hb3
 clear hb3 d0 d1
 go_wp2
 go_ret
 exact ⟨rfl, hB3⟩

set_option maxHeartbeats 1000000 in
theorem wfault_any (s : St) (vl vr vv : Value) (x : Int) (w : World) (h : RdSt w s vl vr vv) :
  Calls Tryz.prog 102 #[.agg #[.int .i64 s.lf.1, vl, .int .i64 s.rt.1, vr, .int .i64 s.fr, .int .i64 s.to, vv], .int .i64 x] w fun e w' => e = .returned (.int .i64 (faultM (VB s) x)) ∧ Below w.heap.size w w' := by
 have H1 := Lib.hid (fun W h => tvalid_any s vl vr vv W h)
 have H2 := Lib.hid (fun W => kline_any x W)
 obtain ⟨g, hg⟩ : ∃ g, VB s = g := ⟨_, rfl⟩
 rw [hg] at H1 ⊢
 clear hg
 have HF : Hid (faultM g x = if g = false then 1 else if lineB x = false then 2 else 0) := rfl
 obtain ⟨q, hq⟩ : ∃ q, lineB x = q := ⟨_, rfl⟩
 rw [hq] at H2 HF
 clear hq
 obtain ⟨⟨P, l⟩, ⟨Q, m⟩, f, t, k⟩ := s
 have HR0 := Lib.hid h
 obtain ⟨a1, n1, rfl⟩ := h.1.form
 obtain ⟨a2, n2, rfl⟩ := h.2.1.form
 obtain ⟨a3, n3, rfl⟩ := h.2.2.form
 clear h
 simp only at H1 ⊢
 obtain ⟨W, hWe⟩ : ∃ W, w.alloc (.cells #[.int .i64 P, .slice a1 l.length n1, .int .i64 Q, .slice a2 m.length n2, .int .i64 f, .int .i64 t, .slice a3 k.length n3] 54) = W := ⟨_, rfl⟩
 have hW : Below w.heap.size w W := by rw [← hWe]; exact (Below.refl _ w).alloc (Nat.le_refl _) _
 have HX : Hid (Set7 W w.heap.size (.int .i64 P) (.slice a1 l.length n1) (.int .i64 Q) (.slice a2 m.length n2) (.int .i64 f) (.int .i64 t) (.slice a3 k.length n3)) := by
  rw [← hWe]
  refine ⟨⟨?_, ?_, ?_, ?_, ?_, ?_, ?_⟩, ?_, ?_, ?_, ?_, ?_, ?_, ?_⟩ <;> simp [go_sem]
 have HR := Lib.hid (keepSt hW HR0.out)
 have HE := Lib.hid hWe
 clear hWe
 obtain ⟨⟨B0, B1, B2, B3, B4, B5, B6⟩, _⟩ := HX.out
 go_enter Tryz.func102, Tryz.ntmps102
 go_wp2_with fail
 rw [HE.out]
 go_wp2_with fail
 refine (H1.out _ HR.out).mono ?_
 rintro e w1 ⟨rfl, hb1⟩
 have hB1 := keepBelow hW hb1
 clear hb1 B0 B1 B2 B3 B4 B5 B6 HX HR HE hW
 cases g with
 | false =>
  go_wp2
  go_ret
  exact ⟨ret_int (by rw [HF.out]; rfl), hB1⟩
 | true =>
 go_wp2_with fail
 refine (H2.out _).mono ?_
 rintro e w2 ⟨rfl, rfl⟩
 cases q with
 | false =>
  go_wp2
  go_ret
  exact ⟨ret_int (by rw [HF.out]; rfl), hB1⟩
 | true =>
  go_wp2
  go_ret
  exact ⟨ret_int (by rw [HF.out]; rfl), hB1⟩
end Go.Proofs.YtlbjfbpejomkmaaGreat
namespace Go.Proofs.YtlbjfbpejomkmaaGreat
open Go.RowKit Wk

def cntL (s : St) (a b : Int) : Int := if min a s.fr < min b s.fr then rankP s.lf (min b s.fr) - rankP s.lf (min a s.fr) else 0
def cntR (s : St) (a b : Int) : Int := if max a s.to < max b s.to then rankP s.rt (max b s.to) - rankP s.rt (max a s.to) else 0
def cntM (s : St) (a b : Int) : Int := if min (max a s.fr) s.to < min (max b s.fr) s.to then rank s.l (min (max b s.fr) s.to) - rank s.l (min (max a s.fr) s.to) else 0

set_option maxRecDepth 100000 in
set_option maxHeartbeats 4000000 in
theorem wcount_any (s : St) (vl vr vv : Value) (a b : Int) (w : World) (h : RdSt w s vl vr vv) (hs : OkS s) (ha1 : -4398046511104 ≤ a) (ha2 : a ≤ 4398046511104) (hb1 : -4398046511104 ≤ b) (hb2 : b ≤ 4398046511104) :
  Calls Tryz.prog 126 #[.agg #[.int .i64 s.lf.1, vl, .int .i64 s.rt.1, vr, .int .i64 s.fr, .int .i64 s.to, vv], .int .i64 a, .int .i64 b] w fun e w' => e = .returned (.int .i64 (cnt s a b)) ∧ Below w.heap.size w w' := by
 have HC : Hid (cnt s a b = cntL s a b + cntR s a b + cntM s a b) := rfl
 have hf1 := hs.f1
 have hft := hs.ft
 have ht1 := hs.t1
 have hgl := goodP_of_pvB hs.lf
 have hgr := goodP_of_pvB hs.rt
 have hlb : ∀ x, (0 ≤ x → 0 ≤ rankP s.lf x ∧ rankP s.lf x ≤ x) ∧ (x ≤ 0 → x ≤ rankP s.lf x ∧ rankP s.lf x ≤ 0) := fun x => rankP_bd hgl x
 have hrb : ∀ x, (0 ≤ x → 0 ≤ rankP s.rt x ∧ rankP s.rt x ≤ x) ∧ (x ≤ 0 → x ≤ rankP s.rt x ∧ rankP s.rt x ≤ 0) := fun x => rankP_bd hgr x
 have hmb := fun x => rank_bd (l := s.l) x (canon_of_rvB hs.l).2.1
 have hlen := (canon_of_rvB hs.l).2.2
 have H1 := Lib.hid (fun x W h h1 h2 => wrank_any s.lf.1 x vl s.lf.2 W h hs.lf h1 h2)
 have H2 := Lib.hid (fun x W h h1 h2 => wrank_any s.rt.1 x vr s.rt.2 W h hs.rt h1 h2)
 have H3 := Lib.hid (fun x W h => rrank_any vv s.l x W h hs.l)
 have HLe : Hid (cntL s a b = if min a s.fr < min b s.fr then rankP s.lf (min b s.fr) - rankP s.lf (min a s.fr) else 0) := rfl
 have HRe : Hid (cntR s a b = if max a s.to < max b s.to then rankP s.rt (max b s.to) - rankP s.rt (max a s.to) else 0) := rfl
 have HMe : Hid (cntM s a b = if min (max a s.fr) s.to < min (max b s.fr) s.to then rank s.l (min (max b s.fr) s.to) - rank s.l (min (max a s.fr) s.to) else 0) := rfl
 have bL : -17592186044416 ≤ cntL s a b ∧ cntL s a b ≤ 17592186044416 := by
  have h1 := hlb (min a s.fr)
  have h2 := hlb (min b s.fr)
  rw [HLe.out]; split <;> omega
 have bR : -17592186044416 ≤ cntR s a b ∧ cntR s a b ≤ 17592186044416 := by
  have h1 := hrb (max a s.to)
  have h2 := hrb (max b s.to)
  rw [HRe.out]; split <;> omega
 have bM : -17592186044416000 ≤ cntM s a b ∧ cntM s a b ≤ 17592186044416000 := by
  have h1 := hmb (min (max a s.fr) s.to)
  have h2 := hmb (min (max b s.fr) s.to)
  rw [HMe.out]; split <;> omega
 have BL := Lib.hid hlb
 have BR := Lib.hid hrb
 have BM := Lib.hid hmb
 rw [HC.out]
 generalize cntL s a b = cl at *
 generalize cntR s a b = cr at *
 generalize cntM s a b = cm at *
 clear hs hgl hgr HC hlb hrb hmb
 obtain ⟨⟨P, l⟩, ⟨Q, m⟩, f, t, k⟩ := s
 have HR0 := Lib.hid h
 obtain ⟨a1, n1, rfl⟩ := h.1.form
 obtain ⟨a2, n2, rfl⟩ := h.2.1.form
 obtain ⟨a3, n3, rfl⟩ := h.2.2.form
 clear h
 simp only at H1 H2 H3 HLe HRe HMe hf1 hft ht1 hlen BL BR BM ⊢
 obtain ⟨W, hWe⟩ : ∃ W, w.alloc (.cells #[.int .i64 P, .slice a1 l.length n1, .int .i64 Q, .slice a2 m.length n2, .int .i64 f, .int .i64 t, .slice a3 k.length n3] 54) = W := ⟨_, rfl⟩
 have hW : Below w.heap.size w W := by rw [← hWe]; exact (Below.refl _ w).alloc (Nat.le_refl _) _
 have HX : Hid (Set7 W w.heap.size (.int .i64 P) (.slice a1 l.length n1) (.int .i64 Q) (.slice a2 m.length n2) (.int .i64 f) (.int .i64 t) (.slice a3 k.length n3)) := by
  rw [← hWe]
  refine ⟨⟨?_, ?_, ?_, ?_, ?_, ?_, ?_⟩, ?_, ?_, ?_, ?_, ?_, ?_, ?_⟩ <;> simp [go_sem]
 have HR := Lib.hid (keepSt hW HR0.out)
 have HE := Lib.hid hWe
 clear hWe HR0
 obtain ⟨⟨B0, B1, B2, B3, B4, B5, B6⟩, _⟩ := HX.out
 go_enter Tryz.func126, Tryz.ntmps126
 go_wp2_with fail
 rw [HE.out]
 go_wp2_with fail
 obtain ⟨x1, hx1⟩ : ∃ x, min a f = x := ⟨_, rfl⟩
 obtain ⟨y1, hy1⟩ : ∃ y, min b f = y := ⟨_, rfl⟩
 have GX1 := Lib.hid hx1
 have GY1 := Lib.hid hy1
 have bx1 : -4398046511104 ≤ x1 ∧ x1 ≤ 4398046511104 := by omega
 have by1 : -4398046511104 ≤ y1 ∧ y1 ≤ 4398046511104 := by omega
 have hq1 := HLe.out
 rw [hx1, hy1] at hq1
 have HQ1 := Lib.hid hq1
 clear hx1 hy1 hq1
 go_cut [8, 9] from 14 to 21 (fun u v wx => u = .int .i64 x1 ∧ v = .int .i64 y1 ∧ Below W.heap.size W wx)
 case first =>
  go_region
  all_goals (go_wp2_with fail; go_meet)
  all_goals (case rel => exact ⟨by rw [← GX1.out], by rw [← GY1.out], (Below.refl _ _).drew⟩)
 case rest =>
 obtain ⟨rfl, rfl, hd1⟩ := hcut
 have HX1 := Lib.hid (HX.out.below hd1)
 have HR1 := Lib.hid (keepSt hd1 HR.out)
 have hB1 := keepBelow hW hd1
 clear hd1 B0 B1 B2 B3 B4 B5 B6
 generalize wc = W1 at *
 go_upto_if 24 with fail
 go_cut [7] from 14 to 35 (fun u wx => u = .int .i64 (cl) ∧ Below W1.heap.size W1 wx)
 case first =>
  obtain ⟨⟨B0, B1, B2, B3, B4, B5, B6⟩, _⟩ := HX1.out
  have e0 := ext_cell B0
  have e1 := ext_cell B1
  have e2 := ext_cell B2
  have e3 := ext_cell B3
  have e4 := ext_cell B4
  have e5 := ext_cell B5
  have e6 := ext_cell B6
  have ER := Lib.hid (ext_rd HR1.out.1)
  by_cases hlt : x1 < y1
  ·have HL := HQ1.out
   rw [if_pos hlt] at HL
   have kx := BL.out x1
   have ky := BL.out y1
   have KX := fun W h => H1.out x1 W h (by omega) (by omega)
   have KY := fun W h => H1.out y1 W h (by omega) (by omega)
   generalize rankP (P, l) x1 = rx at *
   generalize rankP (P, l) y1 = ry at *
   have KX := Lib.hid KX
   have KY := Lib.hid KY
   have g1 : decide (x1 < y1) = true := by simpa using hlt
   have s1 : IntKind.i64.wrap (ry - rx) = ry - rx := by rw [IntKind.wrap_i64]; omega
   have s2 : IntKind.i64.wrap (0 + (ry - rx)) = 0 + (ry - rx) := by rw [IntKind.wrap_i64]; omega
   clear H1 H2 H3 HLe HRe HMe BL BR BM
   go_wp2_with fail
   refine wp_region_ext (by kernel_rfl) (by kernel_rfl) ?_
   iterate 12 (go_big_quiet_step ((first | (go_at_call_of 163 (Value.int IntKind.i64 x1); refine calls_ext (KX.out _ (ER.out _))) | (go_at_call_of 163 (Value.int IntKind.i64 y1); refine calls_ext (KY.out _ (ER.out _))))))
   refine wpQuiet_nil ?_
   intro wq hbq
   go_wp2_with fail
   go_meet
   case rel => exact ⟨by congr 1; omega, hbq⟩
  ·have HL := HQ1.out
   rw [if_neg hlt] at HL
   have g1 : decide (x1 < y1) = false := by simpa using hlt
   clear H1 H2 H3 HLe HRe HMe BL BR BM
   go_wp2_with fail
   go_meet
   case rel => exact ⟨by congr 1; omega, Below.refl _ _⟩
 case rest =>
 obtain ⟨rfl, hc1⟩ := hcut
 have HXc1 := Lib.hid (HX1.out.below hc1)
 have HRc1 := Lib.hid (keepSt hc1 HR1.out)
 have hBc1 := keepBelow hB1 hc1
 clear HX1 HR1 hc1 hB1
 generalize wc = V1 at *
 obtain ⟨⟨B0, B1, B2, B3, B4, B5, B6⟩, _⟩ := HXc1.out
 go_wp2_with fail
 obtain ⟨x2, hx2⟩ : ∃ x, max a t = x := ⟨_, rfl⟩
 obtain ⟨y2, hy2⟩ : ∃ y, max b t = y := ⟨_, rfl⟩
 have GX2 := Lib.hid hx2
 have GY2 := Lib.hid hy2
 have bx2 : -4398046511104 ≤ x2 ∧ x2 ≤ 4398046511104 := by omega
 have by2 : -4398046511104 ≤ y2 ∧ y2 ≤ 4398046511104 := by omega
 have hq2 := HRe.out
 rw [hx2, hy2] at hq2
 have HQ2 := Lib.hid hq2
 clear hx2 hy2 hq2
 go_cut [10, 11] from 14 to 43 (fun u v wx => u = .int .i64 x2 ∧ v = .int .i64 y2 ∧ Below V1.heap.size V1 wx)
 case first =>
  go_region
  all_goals (go_wp2_with fail; go_meet)
  all_goals (case rel => exact ⟨by rw [← GX2.out], by rw [← GY2.out], (Below.refl _ _).drew⟩)
 case rest =>
 obtain ⟨rfl, rfl, hd2⟩ := hcut
 have HX2 := Lib.hid (HXc1.out.below hd2)
 have HR2 := Lib.hid (keepSt hd2 HRc1.out)
 have hB2 := keepBelow hBc1 hd2
 clear hd2 B0 B1 B2 B3 B4 B5 B6
 generalize wc = W2 at *
 go_upto_if 46 with fail
 go_cut [7] from 14 to 57 (fun u wx => u = .int .i64 (cl + cr) ∧ Below W2.heap.size W2 wx)
 case first =>
  obtain ⟨⟨B0, B1, B2, B3, B4, B5, B6⟩, _⟩ := HX2.out
  have e0 := ext_cell B0
  have e1 := ext_cell B1
  have e2 := ext_cell B2
  have e3 := ext_cell B3
  have e4 := ext_cell B4
  have e5 := ext_cell B5
  have e6 := ext_cell B6
  have ER := Lib.hid (ext_rd HR2.out.2.1)
  by_cases hlt : x2 < y2
  ·have HL := HQ2.out
   rw [if_pos hlt] at HL
   have kx := BR.out x2
   have ky := BR.out y2
   have KX := fun W h => H2.out x2 W h (by omega) (by omega)
   have KY := fun W h => H2.out y2 W h (by omega) (by omega)
   generalize rankP (Q, m) x2 = rx at *
   generalize rankP (Q, m) y2 = ry at *
   have KX := Lib.hid KX
   have KY := Lib.hid KY
   have g1 : decide (x2 < y2) = true := by simpa using hlt
   have s1 : IntKind.i64.wrap (ry - rx) = ry - rx := by rw [IntKind.wrap_i64]; omega
   have s2 : IntKind.i64.wrap (cl + (ry - rx)) = cl + (ry - rx) := by rw [IntKind.wrap_i64]; omega
   clear H1 H2 H3 HLe HRe HMe BL BR BM
   go_wp2_with fail
   refine wp_region_ext (by kernel_rfl) (by kernel_rfl) ?_
   iterate 12 (go_big_quiet_step ((first | (go_at_call_of 163 (Value.int IntKind.i64 x2); refine calls_ext (KX.out _ (ER.out _))) | (go_at_call_of 163 (Value.int IntKind.i64 y2); refine calls_ext (KY.out _ (ER.out _))))))
   refine wpQuiet_nil ?_
   intro wq hbq
   go_wp2_with fail
   go_meet
   case rel => exact ⟨by congr 1; omega, hbq⟩
  ·have HL := HQ2.out
   rw [if_neg hlt] at HL
   have g1 : decide (x2 < y2) = false := by simpa using hlt
   clear H1 H2 H3 HLe HRe HMe BL BR BM
   go_wp2_with fail
   go_meet
   case rel => exact ⟨by congr 1; omega, Below.refl _ _⟩
 case rest =>
 obtain ⟨rfl, hc2⟩ := hcut
 have HXc2 := Lib.hid (HX2.out.below hc2)
 have HRc2 := Lib.hid (keepSt hc2 HR2.out)
 have hBc2 := keepBelow hB2 hc2
 clear HX2 HR2 hc2 hB2
 generalize wc = V2 at *
 obtain ⟨⟨B0, B1, B2, B3, B4, B5, B6⟩, _⟩ := HXc2.out
 go_wp2_with fail
 obtain ⟨x3, hx3⟩ : ∃ x, min (max a f) t = x := ⟨_, rfl⟩
 obtain ⟨y3, hy3⟩ : ∃ y, min (max b f) t = y := ⟨_, rfl⟩
 have GX3 := Lib.hid hx3
 have GY3 := Lib.hid hy3
 have bx3 : -4398046511104 ≤ x3 ∧ x3 ≤ 4398046511104 := by omega
 have by3 : -4398046511104 ≤ y3 ∧ y3 ≤ 4398046511104 := by omega
 have hq3 := HMe.out
 rw [hx3, hy3] at hq3
 have HQ3 := Lib.hid hq3
 clear hx3 hy3 hq3
 go_cut [12, 13] from 14 to 71 (fun u v wx => u = .int .i64 x3 ∧ v = .int .i64 y3 ∧ Below V2.heap.size V2 wx)
 case first =>
  go_region
  all_goals (go_wp2_with fail; go_meet)
  all_goals (case rel => exact ⟨by rw [← GX3.out], by rw [← GY3.out], (Below.refl _ _).drew⟩)
 case rest =>
 obtain ⟨rfl, rfl, hd3⟩ := hcut
 have HX3 := Lib.hid (HXc2.out.below hd3)
 have HR3 := Lib.hid (keepSt hd3 HRc2.out)
 have hB3 := keepBelow hBc2 hd3
 clear hd3 B0 B1 B2 B3 B4 B5 B6
 generalize wc = W3 at *
 go_upto_if 74 with fail
 go_cut [7] from 14 to 85 (fun u wx => u = .int .i64 (cl + cr + cm) ∧ Below W3.heap.size W3 wx)
 case first =>
  obtain ⟨⟨B0, B1, B2, B3, B4, B5, B6⟩, _⟩ := HX3.out
  have e0 := ext_cell B0
  have e1 := ext_cell B1
  have e2 := ext_cell B2
  have e3 := ext_cell B3
  have e4 := ext_cell B4
  have e5 := ext_cell B5
  have e6 := ext_cell B6
  have ER := Lib.hid (ext_rd HR3.out.2.2)
  by_cases hlt : x3 < y3
  ·have HL := HQ3.out
   rw [if_pos hlt] at HL
   have kx := BM.out x3
   have ky := BM.out y3
   have KX := H3.out x3
   have KY := H3.out y3
   generalize rank k x3 = rx at *
   generalize rank k y3 = ry at *
   have KX := Lib.hid KX
   have KY := Lib.hid KY
   have g1 : decide (x3 < y3) = true := by simpa using hlt
   have s1 : IntKind.i64.wrap (ry - rx) = ry - rx := by rw [IntKind.wrap_i64]; omega
   have s2 : IntKind.i64.wrap (cl + cr + (ry - rx)) = cl + cr + (ry - rx) := by rw [IntKind.wrap_i64]; omega
   clear H1 H2 H3 HLe HRe HMe BL BR BM
   go_wp2_with fail
   refine wp_region_ext (by kernel_rfl) (by kernel_rfl) ?_
   iterate 12 (go_big_quiet_step ((first | (go_at_call_of 164 (Value.int IntKind.i64 x3); refine calls_ext (KX.out _ (ER.out _))) | (go_at_call_of 164 (Value.int IntKind.i64 y3); refine calls_ext (KY.out _ (ER.out _))))))
   refine wpQuiet_nil ?_
   intro wq hbq
   go_wp2_with fail
   go_meet
   case rel => exact ⟨by congr 1; omega, hbq⟩
  ·have HL := HQ3.out
   rw [if_neg hlt] at HL
   have g1 : decide (x3 < y3) = false := by simpa using hlt
   clear H1 H2 H3 HLe HRe HMe BL BR BM
   go_wp2_with fail
   go_meet
   case rel => exact ⟨by congr 1; omega, Below.refl _ _⟩
 case rest =>
 obtain ⟨rfl, hc3⟩ := hcut
 have HXc3 := Lib.hid (HX3.out.below hc3)
 have HRc3 := Lib.hid (keepSt hc3 HR3.out)
 have hBc3 := keepBelow hB3 hc3
 clear HX3 HR3 hc3 hB3
 generalize wc = V3 at *
 obtain ⟨⟨B0, B1, B2, B3, B4, B5, B6⟩, _⟩ := HXc3.out
 go_wp2_with fail
 go_ret
 exact ⟨rfl, hBc3⟩
end Go.Proofs.YtlbjfbpejomkmaaGreat
namespace Go.Proofs.YtlbjfbpejomkmaaGreat
open Go.RowKit Wk

set_option maxRecDepth 100000 in
set_option maxHeartbeats 4000000 in
theorem wadd_any (s : St) (vl vr vv : Value) (t n : Int) (w : World) (h : RdSt w s vl vr vv) (hs : OkS s) (ht1 : -4398046511104 ≤ t) (ht2 : t ≤ 4398046511104) (hn1 : 0 ≤ n) (hn2 : n ≤ 8796093022208) :
  Calls Tryz.prog 189 #[.agg #[.int .i64 s.lf.1, vl, .int .i64 s.rt.1, vr, .int .i64 s.fr, .int .i64 s.to, vv], .int .i64 t, .int .i64 n] w fun e w' => e = .returned (.tuple #[.int .i64 (addM s t n).1, .int .i64 (addM s t n).2]) ∧ Below w.heap.size w w' := by
 have HRL : Hid (∀ x W, RdS W vl s.lf.2 → -8796093022208 ≤ x → x ≤ 8796093022208 → Calls Tryz.prog 163 #[.agg #[.int .i64 s.lf.1, vl], .int .i64 x] W fun e w' => e = .returned (.int .i64 (rankP s.lf x)) ∧ Below W.heap.size W w') := fun x W h h1 h2 => wrank_any s.lf.1 x vl s.lf.2 W h hs.lf h1 h2
 have HRR : Hid (∀ x W, RdS W vr s.rt.2 → -8796093022208 ≤ x → x ≤ 8796093022208 → Calls Tryz.prog 163 #[.agg #[.int .i64 s.rt.1, vr], .int .i64 x] W fun e w' => e = .returned (.int .i64 (rankP s.rt x)) ∧ Below W.heap.size W w') := fun x W h h1 h2 => wrank_any s.rt.1 x vr s.rt.2 W h hs.rt h1 h2
 have HRM : Hid (∀ x W, RdS W vv s.l → Calls Tryz.prog 164 #[vv, .int .i64 x] W fun e w' => e = .returned (.int .i64 (rank s.l x)) ∧ Below W.heap.size W w') := fun x W h => rrank_any vv s.l x W h hs.l
 have HNL : Hid (∀ x W, RdS W vl s.lf.2 → 0 < meas s.lf.2 → -8796093022208 ≤ nthP s.lf x → nthP s.lf x ≤ 8796093022208 → Calls Tryz.prog 211 #[.agg #[.int .i64 s.lf.1, vl], .int .i64 x] W fun e w' => e = .returned (.int .i64 (nthP s.lf x)) ∧ Below W.heap.size W w') := fun x W h h0 h1 h2 => wnth_any s.lf.1 x vl s.lf.2 W h hs.lf h0 h1 h2
 have HNR : Hid (∀ x W, RdS W vr s.rt.2 → 0 < meas s.rt.2 → -8796093022208 ≤ nthP s.rt x → nthP s.rt x ≤ 8796093022208 → Calls Tryz.prog 211 #[.agg #[.int .i64 s.rt.1, vr], .int .i64 x] W fun e w' => e = .returned (.int .i64 (nthP s.rt x)) ∧ Below W.heap.size W w') := fun x W h h0 h1 h2 => wnth_any s.rt.1 x vr s.rt.2 W h hs.rt h0 h1 h2
 have HNM : Hid (∀ x W, RdS W vv s.l → 0 ≤ x → x < meas s.l → Calls Tryz.prog 212 #[vv, .int .i64 x] W fun e w' => e = .returned (.tuple #[.int .i64 (nth s.l x), .int .i64 0]) ∧ Below W.heap.size W w') := fun x W h h0 h1 => rnth_any vv s.l x W h hs.l h0 h1
 have HC : Hid (∀ a b W, RdSt W s vl vr vv → -4398046511104 ≤ a → a ≤ 4398046511104 → -4398046511104 ≤ b → b ≤ 4398046511104 → Calls Tryz.prog 126 #[.agg #[.int .i64 s.lf.1, vl, .int .i64 s.rt.1, vr, .int .i64 s.fr, .int .i64 s.to, vv], .int .i64 a, .int .i64 b] W fun e w' => e = .returned (.int .i64 (cnt s a b)) ∧ Below W.heap.size W w') := fun a b W h h1 h2 h3 h4 => wcount_any s vl vr vv a b W h hs h1 h2 h3 h4
 have HGS := Lib.hid hs.good
 have HGL : Hid (∀ x, (0 ≤ x → 0 ≤ rankP s.lf x ∧ rankP s.lf x ≤ x) ∧ (x ≤ 0 → x ≤ rankP s.lf x ∧ rankP s.lf x ≤ 0)) := fun x => rankP_bd hs.good.lf x
 have HGR : Hid (∀ x, (0 ≤ x → 0 ≤ rankP s.rt x ∧ rankP s.rt x ≤ x) ∧ (x ≤ 0 → x ≤ rankP s.rt x ∧ rankP s.rt x ≤ 0)) := fun x => rankP_bd hs.good.rt x
 have HGM : Hid (∀ x, 0 ≤ rank s.l x ∧ rank s.l x ≤ s.l.length * 8796093022208) := fun x => rank_bd (l := s.l) x (canon_of_rvB hs.l).2.1
 have hlen := (canon_of_rvB hs.l).2.2
 have hf1 := hs.f1
 have hft := hs.ft
 have hto1 := hs.t1
 clear hs
 have HR0 := Lib.hid h
 obtain ⟨a1, n1, rfl⟩ := h.1.form
 obtain ⟨a2, n2, rfl⟩ := h.2.1.form
 obtain ⟨a3, n3, rfl⟩ := h.2.2.form
 clear h
 obtain ⟨W, hWe⟩ : ∃ W, w.alloc (.cells #[.int .i64 s.lf.1, .slice a1 s.lf.2.length n1, .int .i64 s.rt.1, .slice a2 s.rt.2.length n2, .int .i64 s.fr, .int .i64 s.to, .slice a3 s.l.length n3] 54) = W := ⟨_, rfl⟩
 have hW : Below w.heap.size w W := by rw [← hWe]; exact (Below.refl _ w).alloc (Nat.le_refl _) _
 have HX : Hid (Set7 W w.heap.size (.int .i64 s.lf.1) (.slice a1 s.lf.2.length n1) (.int .i64 s.rt.1) (.slice a2 s.rt.2.length n2) (.int .i64 s.fr) (.int .i64 s.to) (.slice a3 s.l.length n3)) := by
  rw [← hWe]
  refine ⟨⟨?_, ?_, ?_, ?_, ?_, ?_, ?_⟩, ?_, ?_, ?_, ?_, ?_, ?_, ?_⟩ <;> simp [go_sem]
 have HR := Lib.hid (keepSt hW HR0.out)
 have HE := Lib.hid hWe
 clear hWe HR0
 obtain ⟨⟨B0, B1, B2, B3, B4, B5, B6⟩, _⟩ := HX.out
 by_cases hn0 : n = 0
 ·subst hn0
  go_enter Tryz.func189, Tryz.ntmps189
  go_wp2_with fail
  rw [HE.out]

  go_ret2
  exact ⟨by rw [addM_zero]; rfl, hW⟩
 have g0 : (n == 0) = false := by simpa using hn0
 go_enter Tryz.func189, Tryz.ntmps189
 go_wp2_with fail
 rw [HE.out]

 go_wp2_with fail
 refine (HC.out t 4398046511104 _ HR.out ht1 ht2 (by omega) (by omega)).mono ?_
 rintro e w1 ⟨rfl, hb1⟩
 have HX1 := Lib.hid (HX.out.below hb1)
 have HR1 := Lib.hid (keepSt hb1 HR.out)
 have hB1 := keepBelow hW hb1
 clear hb1 B0 B1 B2 B3 B4 B5 B6 HX HR HE
 obtain ⟨⟨B0, B1, B2, B3, B4, B5, B6⟩, _⟩ := HX1.out

 have hpot := cnt_pot s HGS.out.ft t 4398046511104 ht2
 obtain ⟨kT, hkT⟩ : ∃ kT, cnt s t 4398046511104 = kT := ⟨_, rfl⟩
 rw [hkT] at hpot ⊢
 by_cases hk : kT < n
 ·have HQ : Hid (addM s t n = (0, 7)) := by unfold Hid addM; rw [if_neg hn0, hkT, if_pos hk]
  have gk : decide (kT < n) = true := by simpa using hk
  clear hkT
  go_wp2
  go_ret2
  exact ⟨by rw [HQ.out]; rfl, hB1⟩
 have HQ : Hid (addM s t n = (addLf s t n, 0)) := by unfold Hid addM; rw [if_neg hn0, hkT, if_neg hk]
 have gk : decide (kT < n) = false := by simpa using hk
 have hnp : 0 < n := by omega
 clear hkT hn0
 have HPT : Hid (n ≤ potS s 4398046511104 - potS s t) := by unfold Hid; omega
 clear hpot
 go_upto_if 23 with fail
 go_cut [1, 2, 8] from 12 to 47 (fun u v _ wx => ∃ t' n', u = .int .i64 t' ∧ v = .int .i64 n' ∧ Hid (addLf s t n = addMid s t' n') ∧ s.fr ≤ t' ∧ t' ≤ 4398046511104 ∧ 0 < n' ∧ n' ≤ 8796093022208 ∧ Hid (n' ≤ potS s 4398046511104 - potS s t') ∧ Below w1.heap.size w1 wx)
 case first =>
  by_cases h1 : t < s.fr
  ·have g1 : decide (t < s.fr) = true := by simpa using h1
   go_wp2_with fail
   refine (HC.out t s.fr _ HR1.out ht1 ht2 (by omega) (by omega)).mono ?_
   rintro e w2 ⟨rfl, hb2⟩
   have HB2 := Lib.hid hb2
   have HX2 := Lib.hid (HX1.out.below hb2)
   have HR2 := Lib.hid (keepSt hb2 HR1.out)
   have hB2 := keepBelow hB1 hb2
   clear hb2 B0 B1 B2 B3 B4 B5 B6 HX1 HR1 
   obtain ⟨⟨B0, B1, B2, B3, B4, B5, B6⟩, _⟩ := HX2.out

   have hpot := cnt_pot s HGS.out.ft t s.fr (by omega)
   have hmono := ((potS_steps HGS.out).mono t s.fr (by omega))
   by_cases h2 : n ≤ cnt s t s.fr
   ·have hin := in_lf HGS.out h1 (by omega) h2
    have HV : Hid (addLf s t n = nthP s.lf (rankP s.lf t + n - 1) + 1) := by unfold Hid addLf; rw [if_pos h1, if_pos h2]
    obtain ⟨kL, hkL⟩ : ∃ kL, cnt s t s.fr = kL := ⟨_, rfl⟩
    rw [hkL] at h2 ⊢
    have g2 : decide (n ≤ kL) = true := by simpa using h2
    clear hkL hpot hmono
    have kb := HGL.out t
    have KX := fun W hh => HRL.out t W hh (by omega) (by omega)
    have KY := fun W hh => HNL.out (rankP s.lf t + n - 1) W hh hin.1 (by omega) (by omega)
    obtain ⟨rk, hrk⟩ : ∃ rk, rankP s.lf t = rk := ⟨_, rfl⟩
    rw [hrk] at KX KY kb hin
    obtain ⟨nv, hnv⟩ : ∃ nv, nthP s.lf (rk + n - 1) = nv := ⟨_, rfl⟩
    rw [hnv] at KY hin
    have HRK := Lib.hid hrk
    have HNV := Lib.hid hnv
    have KX := Lib.hid KX
    have KY := Lib.hid KY
    clear hrk hnv
    have s1 : IntKind.i64.wrap (rk + n) = rk + n := by rw [IntKind.wrap_i64]; omega
    have s2 : IntKind.i64.wrap (rk + n - 1) = rk + n - 1 := by rw [IntKind.wrap_i64]; omega
    have s3 : IntKind.i64.wrap (nv + 1) = nv + 1 := by rw [IntKind.wrap_i64]; omega
    have e0 := ext_cell B0
    have e1 := ext_cell B1
    have e2 := ext_cell B2
    have e3 := ext_cell B3
    have e4 := ext_cell B4
    have e5 := ext_cell B5
    have e6 := ext_cell B6
    have ER := Lib.hid (ext_rd HR2.out.1)
    clear HRL HRR HRM HNL HNR HNM HC
    go_wp2_with fail
    refine wp_region_ext (by kernel_rfl) (by kernel_rfl) ?_
    iterate 13 (go_big_quiet_step ((first | (go_at_call 163; refine calls_ext (KX.out _ (ER.out _))) | (go_at_call 211; refine calls_ext (KY.out _ (ER.out _))))))
    refine wpQuiet_nil ?_
    intro wq hbq
    go_wp2
    go_ret2
    exact ⟨by rw [HQ.out, HV.out, HRK.out, HNV.out]; rfl, keepBelow hB2 hbq⟩

   ·have HV : Hid (addLf s t n = addMid s s.fr (n - cnt s t s.fr)) := by unfold Hid addLf; rw [if_pos h1, if_neg h2]
    have HPF : Hid (n - cnt s t s.fr ≤ potS s 4398046511104 - potS s s.fr) := by unfold Hid; have := HPT.out; omega
    obtain ⟨kL, hkL⟩ : ∃ kL, cnt s t s.fr = kL := ⟨_, rfl⟩
    rw [hkL] at h2 hpot HV HPF ⊢
    have g2 : decide (n ≤ kL) = false := by simpa using h2
    have s1 : IntKind.i64.wrap (n - kL) = n - kL := by rw [IntKind.wrap_i64]; omega
    have hkp : 0 ≤ kL := by omega
    clear hkL hpot hmono
    go_wp2_with fail
    go_meet
    case rel => exact ⟨s.fr, n - kL, rfl, rfl, HV, Int.le_refl _, by omega, by omega, by omega, HPF, HB2.out⟩
  ·have g1 : decide (t < s.fr) = false := by simpa using h1
   have HV : Hid (addLf s t n = addMid s t n) := by unfold Hid addLf; rw [if_neg h1]
   go_wp2_with fail
   go_meet
   case rel => exact ⟨t, n, rfl, rfl, HV, by omega, ht2, by omega, hn2, HPT, Below.refl _ _⟩
 case rest =>
 obtain ⟨t', n', rfl, rfl, HV1, hq1, hq2, hq3, hq4, HPT1, hb3⟩ := hcut
 have HX3 := Lib.hid (HX1.out.below hb3)
 have HR3 := Lib.hid (keepSt hb3 HR1.out)
 have hB3 := keepBelow hB1 hb3
 clear hb3 B0 B1 B2 B3 B4 B5 B6 HX1 HR1 
 obtain ⟨⟨B0, B1, B2, B3, B4, B5, B6⟩, _⟩ := HX3.out

 generalize wc = w3 at *
 clear HPT hk gk ht1 ht2 hn1 hn2
 go_upto_if 51 with fail
 go_cut [1, 2, 9, 10, 11] from 48 to 79 (fun u v _ _ _ wx => ∃ t'' n'', u = .int .i64 t'' ∧ v = .int .i64 n'' ∧ Hid (addLf s t n = addR s t'' n'') ∧ s.to ≤ t'' ∧ t'' ≤ 4398046511104 ∧ 0 < n'' ∧ n'' ≤ 8796093022208 ∧ Hid (n'' ≤ potS s 4398046511104 - potS s t'') ∧ Below w3.heap.size w3 wx)
 case first =>
  by_cases h1 : t' < s.to
  ·have g1 : decide (t' < s.to) = true := by simpa using h1
   go_wp2_with fail
   refine (HC.out t' s.to _ HR3.out (by omega) (by omega) (by omega) (by omega)).mono ?_
   rintro e w4 ⟨rfl, hb4⟩
   have HB4 := Lib.hid hb4
   have HX4 := Lib.hid (HX3.out.below hb4)
   have HR4 := Lib.hid (keepSt hb4 HR3.out)
   have hB4 := keepBelow hB3 hb4
   clear hb4 B0 B1 B2 B3 B4 B5 B6 HX3 HR3 
   obtain ⟨⟨B0, B1, B2, B3, B4, B5, B6⟩, _⟩ := HX4.out

   have hpot := cnt_pot s HGS.out.ft t' s.to (by omega)
   have hmono := ((potS_steps HGS.out).mono t' s.to (by omega))
   by_cases h2 : n' ≤ cnt s t' s.to
   ·have hin := in_mid HGS.out hq1 h1 (by omega) h2
    have HV : Hid (addMid s t' n' = nth s.l (rank s.l t' + n' - 1) + 1) := by unfold Hid addMid; rw [if_pos h1, if_pos h2]
    obtain ⟨kL, hkL⟩ : ∃ kL, cnt s t' s.to = kL := ⟨_, rfl⟩
    rw [hkL] at h2 ⊢
    have g2 : decide (n' ≤ kL) = true := by simpa using h2
    clear hkL hpot hmono
    have kb := HGM.out t'
    have KX := HRM.out t'
    have KY := fun W hh => HNM.out (rank s.l t' + n' - 1) W hh hin.1 hin.2.1
    obtain ⟨rk, hrk⟩ : ∃ rk, rank s.l t' = rk := ⟨_, rfl⟩
    rw [hrk] at KX KY kb hin
    obtain ⟨nv, hnv⟩ : ∃ nv, nth s.l (rk + n' - 1) = nv := ⟨_, rfl⟩
    rw [hnv] at KY hin
    have HRK := Lib.hid hrk
    have HNV := Lib.hid hnv
    have KX := Lib.hid KX
    have KY := Lib.hid KY
    clear hrk hnv
    have s1 : IntKind.i64.wrap (rk + n') = rk + n' := by rw [IntKind.wrap_i64]; omega
    have s2 : IntKind.i64.wrap (rk + n' - 1) = rk + n' - 1 := by rw [IntKind.wrap_i64]; omega
    have s3 : IntKind.i64.wrap (nv + 1) = nv + 1 := by rw [IntKind.wrap_i64]; omega
    have e0 := ext_cell B0
    have e1 := ext_cell B1
    have e2 := ext_cell B2
    have e3 := ext_cell B3
    have e4 := ext_cell B4
    have e5 := ext_cell B5
    have e6 := ext_cell B6
    have ER := Lib.hid (ext_rd HR4.out.2.2)
    clear HRL HRR HRM HNL HNR HNM HC
    go_wp2_with fail
    refine wp_region_ext (by kernel_rfl) (by kernel_rfl) ?_
    iterate 15 (go_big_quiet_step ((first | (go_at_call 164; refine calls_ext (KX.out _ (ER.out _))) | (go_at_call 212; refine calls_ext (KY.out _ (ER.out _))))))
    refine wpQuiet_nil ?_
    intro wq hbq
    go_wp2
    go_ret2
    exact ⟨by rw [HQ.out, HV1.out, HV.out, HRK.out, HNV.out]; rfl, keepBelow hB4 hbq⟩

   ·have HV : Hid (addMid s t' n' = addR s s.to (n' - cnt s t' s.to)) := by unfold Hid addMid; rw [if_pos h1, if_neg h2]
    have HPF : Hid (n' - cnt s t' s.to ≤ potS s 4398046511104 - potS s s.to) := by unfold Hid; have := HPT1.out; omega
    obtain ⟨kL, hkL⟩ : ∃ kL, cnt s t' s.to = kL := ⟨_, rfl⟩
    rw [hkL] at h2 hpot HV HPF ⊢
    have g2 : decide (n' ≤ kL) = false := by simpa using h2
    have s1 : IntKind.i64.wrap (n' - kL) = n' - kL := by rw [IntKind.wrap_i64]; omega
    have hkp : 0 ≤ kL := by omega
    clear hkL hpot hmono
    go_wp2_with fail
    go_meet
    case rel => exact ⟨s.to, n' - kL, rfl, rfl, by unfold Hid; rw [HV1.out]; exact HV.out, Int.le_refl _, by omega, by omega, by omega, HPF, HB4.out⟩
  ·have g1 : decide (t' < s.to) = false := by simpa using h1
   have HV : Hid (addMid s t' n' = addR s t' n') := by unfold Hid addMid; rw [if_neg h1]
   go_wp2_with fail
   go_meet
   case rel => exact ⟨t', n', rfl, rfl, by unfold Hid; rw [HV1.out]; exact HV.out, by omega, hq2, hq3, hq4, HPT1, Below.refl _ _⟩
 case rest =>
 obtain ⟨t2, m2, rfl, rfl, HV2, hr1, hr2, hr3, hr4, HPT2, hb5⟩ := hcut
 have HX5 := Lib.hid (HX3.out.below hb5)
 have HR5 := Lib.hid (keepSt hb5 HR3.out)
 have hB5 := keepBelow hB3 hb5
 clear hb5 B0 B1 B2 B3 B4 B5 B6 HX3 HR3 
 obtain ⟨⟨B0, B1, B2, B3, B4, B5, B6⟩, _⟩ := HX5.out

 generalize wc = w5 at *
 have hin := in_rt HGS.out hr1 hr3 HPT2.out
 have HV : Hid (addR s t2 m2 = nthP s.rt (rankP s.rt t2 + m2 - 1) + 1) := rfl
 clear HV1 HPT1 HPT2 hq1 hq2 hq3 hq4
 have kb := HGR.out t2
 have KX := fun W hh => HRR.out t2 W hh (by omega) (by omega)
 have KY := fun W hh => HNR.out (rankP s.rt t2 + m2 - 1) W hh hin.1 (by omega) (by omega)
 obtain ⟨rk, hrk⟩ : ∃ rk, rankP s.rt t2 = rk := ⟨_, rfl⟩
 rw [hrk] at KX KY kb hin
 obtain ⟨nv, hnv⟩ : ∃ nv, nthP s.rt (rk + m2 - 1) = nv := ⟨_, rfl⟩
 rw [hnv] at KY hin
 have HRK := Lib.hid hrk
 have HNV := Lib.hid hnv
 have KX := Lib.hid KX
 have KY := Lib.hid KY
 clear hrk hnv
 have s1 : IntKind.i64.wrap (rk + m2) = rk + m2 := by rw [IntKind.wrap_i64]; omega
 have s2 : IntKind.i64.wrap (rk + m2 - 1) = rk + m2 - 1 := by rw [IntKind.wrap_i64]; omega
 have s3 : IntKind.i64.wrap (nv + 1) = nv + 1 := by rw [IntKind.wrap_i64]; omega
 have e0 := ext_cell B0
 have e1 := ext_cell B1
 have e2 := ext_cell B2
 have e3 := ext_cell B3
 have e4 := ext_cell B4
 have e5 := ext_cell B5
 have e6 := ext_cell B6
 have ER := Lib.hid (ext_rd HR5.out.2.1)
 clear HRL HRR HRM HNL HNR HNM HC
 go_wp2_with fail
 refine wp_region_ext (by kernel_rfl) (by kernel_rfl) ?_
 iterate 13 (go_big_quiet_step ((first | (go_at_call 163; refine calls_ext (KX.out _ (ER.out _))) | (go_at_call 211; refine calls_ext (KY.out _ (ER.out _))))))
 refine wpQuiet_nil ?_
 intro wq hbq
 go_wp2
 go_ret2
 exact ⟨by rw [HQ.out, HV2.out, HV.out, HRK.out, HNV.out]; rfl, keepBelow hB5 hbq⟩
end Go.Proofs.YtlbjfbpejomkmaaGreat
namespace Go.Proofs.YtlbjfbpejomkmaaGreat
open Go.RowKit Wk

set_option maxRecDepth 100000 in
set_option maxHeartbeats 4000000 in
theorem wmeasure_any (s : St) (vl vr vv : Value) (x y : Int) (w : World) (h : RdSt w s vl vr vv) :
  Calls Tryz.prog 86 #[.agg #[.int .i64 s.lf.1, vl, .int .i64 s.rt.1, vr, .int .i64 s.fr, .int .i64 s.to, vv], .int .i64 x, .int .i64 y] w fun e w' => e = .returned (.tuple #[.int .i64 (MeaM (VB s) s x y).1, .int .i64 (MeaM (VB s) s x y).2]) ∧ Below w.heap.size w w' := by
 have HVO : Hid (VB s = true → OkS s) := fun hg => okS_of_VB hg
 have HFC : Hid (∀ x W, RdSt W s vl vr vv → Calls Tryz.prog 102 #[.agg #[.int .i64 s.lf.1, vl, .int .i64 s.rt.1, vr, .int .i64 s.fr, .int .i64 s.to, vv], .int .i64 x] W fun e w' => e = .returned (.int .i64 (faultM (VB s) x)) ∧ Below W.heap.size W w') := fun x W h => wfault_any s vl vr vv x W h
 have HLC : Hid (∀ x W, Calls Tryz.prog 125 #[.int .i64 x] W fun e w' => e = .returned (.bool (lineB x)) ∧ W = w') := fun x W => kline_any x W
 have HAC : Hid (∀ x W, Calls Tryz.prog 188 #[.int .i64 x] W fun e w' => e = .returned (.bool (amountB x)) ∧ W = w') := fun x W => amount_any x W
 have HC : Hid (VB s = true → ∀ a b W, RdSt W s vl vr vv → -4398046511104 ≤ a → a ≤ 4398046511104 → -4398046511104 ≤ b → b ≤ 4398046511104 → Calls Tryz.prog 126 #[.agg #[.int .i64 s.lf.1, vl, .int .i64 s.rt.1, vr, .int .i64 s.fr, .int .i64 s.to, vv], .int .i64 a, .int .i64 b] W fun e w' => e = .returned (.int .i64 (cnt s a b)) ∧ Below W.heap.size W w') := fun hg a b W h h1 h2 h3 h4 => wcount_any s vl vr vv a b W h (okS_of_VB hg) h1 h2 h3 h4
 have HAD : Hid (VB s = true → ∀ a b W, RdSt W s vl vr vv → -4398046511104 ≤ a → a ≤ 4398046511104 → 0 ≤ b → b ≤ 8796093022208 → Calls Tryz.prog 189 #[.agg #[.int .i64 s.lf.1, vl, .int .i64 s.rt.1, vr, .int .i64 s.fr, .int .i64 s.to, vv], .int .i64 a, .int .i64 b] W fun e w' => e = .returned (.tuple #[.int .i64 (addM s a b).1, .int .i64 (addM s a b).2]) ∧ Below W.heap.size W w') := fun hg a b W h h1 h2 h3 h4 => wadd_any s vl vr vv a b W h (okS_of_VB hg) h1 h2 h3 h4
 have HGS : Hid (VB s = true → GoodS s) := fun hg => (okS_of_VB hg).good
 generalize VB s = vb at *
 have HR0 := Lib.hid h
 obtain ⟨a1, n1, rfl⟩ := h.1.form
 obtain ⟨a2, n2, rfl⟩ := h.2.1.form
 obtain ⟨a3, n3, rfl⟩ := h.2.2.form
 clear h
 obtain ⟨W, hWe⟩ : ∃ W, w.alloc (.cells #[.int .i64 s.lf.1, .slice a1 s.lf.2.length n1, .int .i64 s.rt.1, .slice a2 s.rt.2.length n2, .int .i64 s.fr, .int .i64 s.to, .slice a3 s.l.length n3] 54) = W := ⟨_, rfl⟩
 have hW : Below w.heap.size w W := by rw [← hWe]; exact (Below.refl _ w).alloc (Nat.le_refl _) _
 have HX : Hid (Set7 W w.heap.size (.int .i64 s.lf.1) (.slice a1 s.lf.2.length n1) (.int .i64 s.rt.1) (.slice a2 s.rt.2.length n2) (.int .i64 s.fr) (.int .i64 s.to) (.slice a3 s.l.length n3)) := by
  rw [← hWe]
  refine ⟨⟨?_, ?_, ?_, ?_, ?_, ?_, ?_⟩, ?_, ?_, ?_, ?_, ?_, ?_, ?_⟩ <;> simp [go_sem]
 have HR := Lib.hid (keepSt hW HR0.out)
 have HE := Lib.hid hWe
 clear hWe HR0
 obtain ⟨⟨B0, B1, B2, B3, B4, B5, B6⟩, _⟩ := HX.out
 go_enter Tryz.func86, Tryz.ntmps86
 go_wp2_with fail
 rw [HE.out]
 go_wp2_with fail
 refine (HFC.out x _ HR.out).mono ?_
 rintro e w1 ⟨rfl, hb1⟩
 have HX1 := Lib.hid (HX.out.below hb1)
 have HR1 := Lib.hid (keepSt hb1 HR.out)
 have hB1 := keepBelow hW hb1
 clear hb1 B0 B1 B2 B3 B4 B5 B6 HX HR HE
 obtain ⟨⟨B0, B1, B2, B3, B4, B5, B6⟩, _⟩ := HX1.out

 obtain ⟨f, hf⟩ : ∃ f, faultM vb x = f := ⟨_, rfl⟩
 rw [hf]
 by_cases hf0 : f ≠ 0
 ·have HQ : Hid (MeaM vb s x y = (0, f)) := by unfold Hid MeaM; rw [hf, if_pos hf0]
  have g1 : (f == 0) = false := by simpa using hf0
  clear hf
  go_wp2
  go_ret2
  exact ⟨by rw [HQ.out]; rfl, hB1⟩
 have hf0 : f = 0 := by omega
 subst hf0
 obtain ⟨hvb, hlx⟩ := fault_iff.1 hf
 have HF := Lib.hid hf
 have HGS := Lib.hid (HGS.out hvb)
 have HC := Lib.hid (HC.out hvb)
 have HAD := Lib.hid (HAD.out hvb)
 have hlx := (lineB_iff x).1 hlx
 clear hf

 go_wp2_with fail
 refine (HLC.out y _).mono ?_
 rintro e w2 ⟨rfl, rfl⟩
 cases hly : lineB y with
 | false =>
  have HQ : Hid (MeaM vb s x y = (0, 2)) := by unfold Hid MeaM; rw [HF.out, if_neg (by simp), if_pos hly]
  clear hly
  go_wp2
  go_ret2
  exact ⟨by rw [HQ.out]; rfl, hB1⟩
 | true =>
 have HY := Lib.hid hly
 have hly := (lineB_iff y).1 hly
 by_cases hyx : y < x
 ·have HQ : Hid (MeaM vb s x y = (-cnt s y x, 0)) := by unfold Hid MeaM; rw [HF.out, if_neg (by simp), if_neg (by rw [HY.out]; simp), if_pos hyx]
  have g2 : decide (y < x) = true := by simpa using hyx
  have hp := cnt_pot s HGS.out.ft y x (by omega)
  have hmo := (potS_steps HGS.out).mono y x (by omega)
  obtain ⟨k, hk⟩ : ∃ k, cnt s y x = k := ⟨_, rfl⟩
  have HCk := HC.out y x _ HR1.out (by omega) (by omega) (by omega) (by omega)
  rw [hk] at HQ hp HCk
  have s1 : IntKind.i64.wrap (-k) = -k := by rw [IntKind.wrap_i64]; omega
  clear hk hp hmo
  go_wp2_with fail
  refine HCk.mono ?_
  rintro e w3 ⟨rfl, hb3⟩
  go_wp2
  go_ret2
  exact ⟨by rw [HQ.out]; rfl, keepBelow hB1 hb3⟩
 ·have HQ : Hid (MeaM vb s x y = (cnt s x y, 0)) := by unfold Hid MeaM; rw [HF.out, if_neg (by simp), if_neg (by rw [HY.out]; simp), if_neg hyx]
  have g2 : decide (y < x) = false := by simpa using hyx
  go_wp2_with fail
  refine (HC.out x y _ HR1.out (by omega) (by omega) (by omega) (by omega)).mono ?_
  rintro e w3 ⟨rfl, hb3⟩
  go_wp2
  go_ret2
  exact ⟨by rw [HQ.out]; rfl, keepBelow hB1 hb3⟩

set_option maxRecDepth 100000 in
set_option maxHeartbeats 4000000 in
theorem wAdd_any (s : St) (vl vr vv : Value) (t n : Int) (w : World) (h : RdSt w s vl vr vv) :
  Calls Tryz.prog 159 #[.agg #[.int .i64 s.lf.1, vl, .int .i64 s.rt.1, vr, .int .i64 s.fr, .int .i64 s.to, vv], .int .i64 t, .int .i64 n] w fun e w' => e = .returned (.tuple #[.int .i64 (AddM (VB s) s t n).1, .int .i64 (AddM (VB s) s t n).2]) ∧ Below w.heap.size w w' := by
 have HVO : Hid (VB s = true → OkS s) := fun hg => okS_of_VB hg
 have HFC : Hid (∀ x W, RdSt W s vl vr vv → Calls Tryz.prog 102 #[.agg #[.int .i64 s.lf.1, vl, .int .i64 s.rt.1, vr, .int .i64 s.fr, .int .i64 s.to, vv], .int .i64 x] W fun e w' => e = .returned (.int .i64 (faultM (VB s) x)) ∧ Below W.heap.size W w') := fun x W h => wfault_any s vl vr vv x W h
 have HLC : Hid (∀ x W, Calls Tryz.prog 125 #[.int .i64 x] W fun e w' => e = .returned (.bool (lineB x)) ∧ W = w') := fun x W => kline_any x W
 have HAC : Hid (∀ x W, Calls Tryz.prog 188 #[.int .i64 x] W fun e w' => e = .returned (.bool (amountB x)) ∧ W = w') := fun x W => amount_any x W
 have HC : Hid (VB s = true → ∀ a b W, RdSt W s vl vr vv → -4398046511104 ≤ a → a ≤ 4398046511104 → -4398046511104 ≤ b → b ≤ 4398046511104 → Calls Tryz.prog 126 #[.agg #[.int .i64 s.lf.1, vl, .int .i64 s.rt.1, vr, .int .i64 s.fr, .int .i64 s.to, vv], .int .i64 a, .int .i64 b] W fun e w' => e = .returned (.int .i64 (cnt s a b)) ∧ Below W.heap.size W w') := fun hg a b W h h1 h2 h3 h4 => wcount_any s vl vr vv a b W h (okS_of_VB hg) h1 h2 h3 h4
 have HAD : Hid (VB s = true → ∀ a b W, RdSt W s vl vr vv → -4398046511104 ≤ a → a ≤ 4398046511104 → 0 ≤ b → b ≤ 8796093022208 → Calls Tryz.prog 189 #[.agg #[.int .i64 s.lf.1, vl, .int .i64 s.rt.1, vr, .int .i64 s.fr, .int .i64 s.to, vv], .int .i64 a, .int .i64 b] W fun e w' => e = .returned (.tuple #[.int .i64 (addM s a b).1, .int .i64 (addM s a b).2]) ∧ Below W.heap.size W w') := fun hg a b W h h1 h2 h3 h4 => wadd_any s vl vr vv a b W h (okS_of_VB hg) h1 h2 h3 h4
 have HGS : Hid (VB s = true → GoodS s) := fun hg => (okS_of_VB hg).good
 generalize VB s = vb at *
 have HR0 := Lib.hid h
 obtain ⟨a1, n1, rfl⟩ := h.1.form
 obtain ⟨a2, n2, rfl⟩ := h.2.1.form
 obtain ⟨a3, n3, rfl⟩ := h.2.2.form
 clear h
 obtain ⟨W, hWe⟩ : ∃ W, w.alloc (.cells #[.int .i64 s.lf.1, .slice a1 s.lf.2.length n1, .int .i64 s.rt.1, .slice a2 s.rt.2.length n2, .int .i64 s.fr, .int .i64 s.to, .slice a3 s.l.length n3] 54) = W := ⟨_, rfl⟩
 have hW : Below w.heap.size w W := by rw [← hWe]; exact (Below.refl _ w).alloc (Nat.le_refl _) _
 have HX : Hid (Set7 W w.heap.size (.int .i64 s.lf.1) (.slice a1 s.lf.2.length n1) (.int .i64 s.rt.1) (.slice a2 s.rt.2.length n2) (.int .i64 s.fr) (.int .i64 s.to) (.slice a3 s.l.length n3)) := by
  rw [← hWe]
  refine ⟨⟨?_, ?_, ?_, ?_, ?_, ?_, ?_⟩, ?_, ?_, ?_, ?_, ?_, ?_, ?_⟩ <;> simp [go_sem]
 have HR := Lib.hid (keepSt hW HR0.out)
 have HE := Lib.hid hWe
 clear hWe HR0
 obtain ⟨⟨B0, B1, B2, B3, B4, B5, B6⟩, _⟩ := HX.out
 go_enter Tryz.func159, Tryz.ntmps159
 go_wp2_with fail
 rw [HE.out]
 go_wp2_with fail
 refine (HFC.out t _ HR.out).mono ?_
 rintro e w1 ⟨rfl, hb1⟩
 have HX1 := Lib.hid (HX.out.below hb1)
 have HR1 := Lib.hid (keepSt hb1 HR.out)
 have hB1 := keepBelow hW hb1
 clear hb1 B0 B1 B2 B3 B4 B5 B6 HX HR HE
 obtain ⟨⟨B0, B1, B2, B3, B4, B5, B6⟩, _⟩ := HX1.out

 obtain ⟨f, hf⟩ : ∃ f, faultM vb t = f := ⟨_, rfl⟩
 rw [hf]
 by_cases hf0 : f ≠ 0
 ·have HQ : Hid (AddM vb s t n = (0, f)) := by unfold Hid AddM; rw [hf, if_pos hf0]
  have g1 : (f == 0) = false := by simpa using hf0
  clear hf
  go_wp2
  go_ret2
  exact ⟨by rw [HQ.out]; rfl, hB1⟩
 have hf0 : f = 0 := by omega
 subst hf0
 obtain ⟨hvb, hlx⟩ := fault_iff.1 hf
 have HF := Lib.hid hf
 have HGS := Lib.hid (HGS.out hvb)
 have HC := Lib.hid (HC.out hvb)
 have HAD := Lib.hid (HAD.out hvb)
 have hlx := (lineB_iff t).1 hlx
 clear hf

 go_wp2_with fail

 refine (HAC.out n _).mono ?_
 rintro e w2 ⟨rfl, rfl⟩
 cases hln : amountB n with
 | false =>
  have HQ : Hid (AddM vb s t n = (0, 2)) := by unfold Hid AddM; rw [HF.out, if_neg (by simp), if_pos hln]
  clear hln
  go_wp2
  go_ret2
  exact ⟨by rw [HQ.out]; rfl, hB1⟩
 | true =>
 have HN := Lib.hid hln
 have hn : 0 ≤ n ∧ n ≤ 8796093022208 := by unfold amountB at hln; simpa using hln

 have HQ : Hid (AddM vb s t n = addM s t n) := by unfold Hid AddM; rw [HF.out, if_neg (by simp), if_neg (by rw [HN.out]; simp)]
 clear hln
 go_wp2_with fail
 refine (HAD.out t n _ HR1.out hlx.1 hlx.2 hn.1 hn.2).mono ?_
 rintro e w3 ⟨rfl, hb3⟩
 go_wp2
 go_ret2
 exact ⟨by rw [HQ.out]; rfl, keepBelow hB1 hb3⟩

end Go.Proofs.YtlbjfbpejomkmaaGreat
