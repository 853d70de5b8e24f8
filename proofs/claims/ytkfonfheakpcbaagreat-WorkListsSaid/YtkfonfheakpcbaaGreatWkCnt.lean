import Derived.Test.YtkfonfheakpcbaaGreatWkLst
import Derived.Test.YtkfonfheakpcbaaGreatWkWrk
/- work.count. -/
namespace Go.Proofs.YtkfonfheakpcbaaGreat
open Go.RowKit Wk

/-- the three parts of a count -/
def cntL (s : St) (a b : Int) : Int := if min a s.fr < min b s.fr then rankP s.lf (min b s.fr) - rankP s.lf (min a s.fr) else 0
def cntR (s : St) (a b : Int) : Int := if max a s.to < max b s.to then rankP s.rt (max b s.to) - rankP s.rt (max a s.to) else 0
def cntM (s : St) (a b : Int) : Int := if min (max a s.fr) s.to < min (max b s.fr) s.to then rank s.l (min (max b s.fr) s.to) - rank s.l (min (max a s.fr) s.to) else 0

set_option maxRecDepth 100000 in
set_option maxHeartbeats 4000000 in
theorem wcount_any (s : St) (vl vr vv : Value) (a b : Int) (w : World) (h : RdSt w s vl vr vv) (hs : OkS s) (ha1 : -4398046511104 ≤ a) (ha2 : a ≤ 4398046511104) (hb1 : -4398046511104 ≤ b) (hb2 : b ≤ 4398046511104) :
    Calls Tryz.prog 51 #[.agg #[.int .i64 s.lf.1, vl, .int .i64 s.rt.1, vr, .int .i64 s.fr, .int .i64 s.to, vv], .int .i64 a, .int .i64 b] w fun e w' => e = .returned (.int .i64 (cnt s a b)) ∧ Below w.heap.size w w' := by
  have HC : Hid (cnt s a b = cntL s a b + cntR s a b + cntM s a b) := rfl
  have hf1 := hs.f1
  have hft := hs.ft
  have ht1 := hs.t1
  have hgl := goodP_of_pvB hs.lf
  have hgr := goodP_of_pvB hs.rt
  have hlb : ∀ x, (0 ≤ x → 0 ≤ rankP s.lf x ∧ rankP s.lf x ≤ x) ∧ (x ≤ 0 → x ≤ rankP s.lf x ∧ rankP s.lf x ≤ 0) := fun x => rankP_bd hgl x
  have hrb : ∀ x, (0 ≤ x → 0 ≤ rankP s.rt x ∧ rankP s.rt x ≤ x) ∧ (x ≤ 0 → x ≤ rankP s.rt x ∧ rankP s.rt x ≤ 0) := fun x => rankP_bd hgr x
  have hmb := fun x => rank_bd (l := s.l) x (canon_of_rvB hs.l).2.1
  have hlen := (canon_of_rvB hs.l).2.2
  have H1 := Lib.hid (fun x W h h1 h2 => wrank_any s.lf.1 x vl s.lf.2 W h hs.lf h1 h2)
  have H2 := Lib.hid (fun x W h h1 h2 => wrank_any s.rt.1 x vr s.rt.2 W h hs.rt h1 h2)
  have H3 := Lib.hid (fun x W h => rrank_any vv s.l x W h hs.l)
  have HLe : Hid (cntL s a b = if min a s.fr < min b s.fr then rankP s.lf (min b s.fr) - rankP s.lf (min a s.fr) else 0) := rfl
  have HRe : Hid (cntR s a b = if max a s.to < max b s.to then rankP s.rt (max b s.to) - rankP s.rt (max a s.to) else 0) := rfl
  have HMe : Hid (cntM s a b = if min (max a s.fr) s.to < min (max b s.fr) s.to then rank s.l (min (max b s.fr) s.to) - rank s.l (min (max a s.fr) s.to) else 0) := rfl
  have bL : -17592186044416 ≤ cntL s a b ∧ cntL s a b ≤ 17592186044416 := by
    have h1 := hlb (min a s.fr)
    have h2 := hlb (min b s.fr)
    rw [HLe.out]; split <;> omega
  have bR : -17592186044416 ≤ cntR s a b ∧ cntR s a b ≤ 17592186044416 := by
    have h1 := hrb (max a s.to)
    have h2 := hrb (max b s.to)
    rw [HRe.out]; split <;> omega
  have bM : -17592186044416000 ≤ cntM s a b ∧ cntM s a b ≤ 17592186044416000 := by
    have h1 := hmb (min (max a s.fr) s.to)
    have h2 := hmb (min (max b s.fr) s.to)
    rw [HMe.out]; split <;> omega
  have BL := Lib.hid hlb
  have BR := Lib.hid hrb
  have BM := Lib.hid hmb
  rw [HC.out]
  generalize cntL s a b = cl at *
  generalize cntR s a b = cr at *
  generalize cntM s a b = cm at *
  clear hs hgl hgr HC hlb hrb hmb
  obtain ⟨⟨P, l⟩, ⟨Q, m⟩, f, t, k⟩ := s
  have HR0 := Lib.hid h
  obtain ⟨a1, n1, rfl⟩ := h.1.form
  obtain ⟨a2, n2, rfl⟩ := h.2.1.form
  obtain ⟨a3, n3, rfl⟩ := h.2.2.form
  clear h
  simp only at H1 H2 H3 HLe HRe HMe hf1 hft ht1 hlen BL BR BM ⊢
  obtain ⟨W, hWe⟩ : ∃ W, w.alloc (.cells #[.int .i64 P, .slice a1 l.length n1, .int .i64 Q, .slice a2 m.length n2, .int .i64 f, .int .i64 t, .slice a3 k.length n3] 26) = W := ⟨_, rfl⟩
  have hW : Below w.heap.size w W := by rw [← hWe]; exact (Below.refl _ w).alloc (Nat.le_refl _) _
  have HX : Hid (Set7 W w.heap.size (.int .i64 P) (.slice a1 l.length n1) (.int .i64 Q) (.slice a2 m.length n2) (.int .i64 f) (.int .i64 t) (.slice a3 k.length n3)) := by
    rw [← hWe]
    refine ⟨⟨?_, ?_, ?_, ?_, ?_, ?_, ?_⟩, ?_, ?_, ?_, ?_, ?_, ?_, ?_⟩ <;> simp [go_sem]
  have HR := Lib.hid (keepSt hW HR0.out)
  have HE := Lib.hid hWe
  clear hWe HR0
  obtain ⟨⟨B0, B1, B2, B3, B4, B5, B6⟩, _⟩ := HX.out
  go_enter Tryz.func51, Tryz.ntmps51
  go_wp2_with fail
  rw [HE.out]
  go_wp2_with fail
  obtain ⟨x1, hx1⟩ : ∃ x, min a f = x := ⟨_, rfl⟩
  obtain ⟨y1, hy1⟩ : ∃ y, min b f = y := ⟨_, rfl⟩
  have GX1 := Lib.hid hx1
  have GY1 := Lib.hid hy1
  have bx1 : -4398046511104 ≤ x1 ∧ x1 ≤ 4398046511104 := by omega
  have by1 : -4398046511104 ≤ y1 ∧ y1 ≤ 4398046511104 := by omega
  have hq1 := HLe.out
  rw [hx1, hy1] at hq1
  have HQ1 := Lib.hid hq1
  clear hx1 hy1 hq1
  go_cut [8, 9] from 14 to 21 (fun u v wx => u = .int .i64 x1 ∧ v = .int .i64 y1 ∧ Below W.heap.size W wx)
  case first =>
    go_region
    all_goals (go_wp2_with fail; go_meet)
    all_goals (case rel => exact ⟨by rw [← GX1.out], by rw [← GY1.out], (Below.refl _ _).drew⟩)
  case rest =>
  obtain ⟨rfl, rfl, hd1⟩ := hcut
  have HX1 := Lib.hid (HX.out.below hd1)
  have HR1 := Lib.hid (keepSt hd1 HR.out)
  have hB1 := keepBelow hW hd1
  clear hd1 B0 B1 B2 B3 B4 B5 B6
  generalize wc = W1 at *
  go_upto_if 24 with fail
  go_cut [7] from 14 to 35 (fun u wx => u = .int .i64 (cl) ∧ Below W1.heap.size W1 wx)
  case first =>
    obtain ⟨⟨B0, B1, B2, B3, B4, B5, B6⟩, _⟩ := HX1.out
    have e0 := ext_cell B0
    have e1 := ext_cell B1
    have e2 := ext_cell B2
    have e3 := ext_cell B3
    have e4 := ext_cell B4
    have e5 := ext_cell B5
    have e6 := ext_cell B6
    have ER := Lib.hid (ext_rd HR1.out.1)
    by_cases hlt : x1 < y1
    · have HL := HQ1.out
      rw [if_pos hlt] at HL
      have kx := BL.out x1
      have ky := BL.out y1
      have KX := fun W h => H1.out x1 W h (by omega) (by omega)
      have KY := fun W h => H1.out y1 W h (by omega) (by omega)
      generalize rankP (P, l) x1 = rx at *
      generalize rankP (P, l) y1 = ry at *
      have KX := Lib.hid KX
      have KY := Lib.hid KY
      have g1 : decide (x1 < y1) = true := by simpa using hlt
      have s1 : IntKind.i64.wrap (ry - rx) = ry - rx := by rw [IntKind.wrap_i64]; omega
      have s2 : IntKind.i64.wrap (0 + (ry - rx)) = 0 + (ry - rx) := by rw [IntKind.wrap_i64]; omega
      clear H1 H2 H3 HLe HRe HMe BL BR BM
      go_wp2_with fail
      refine wp_region_ext (by kernel_rfl) (by kernel_rfl) ?_
      iterate 12 (go_big_quiet_step ((first | (go_at_call_of 57 (Value.int IntKind.i64 x1); refine calls_ext (KX.out _ (ER.out _))) | (go_at_call_of 57 (Value.int IntKind.i64 y1); refine calls_ext (KY.out _ (ER.out _))))))
      refine wpQuiet_nil ?_
      intro wq hbq
      go_wp2_with fail
      go_meet
      case rel => exact ⟨by congr 1; omega, hbq⟩
    · have HL := HQ1.out
      rw [if_neg hlt] at HL
      have g1 : decide (x1 < y1) = false := by simpa using hlt
      clear H1 H2 H3 HLe HRe HMe BL BR BM
      go_wp2_with fail
      go_meet
      case rel => exact ⟨by congr 1; omega, Below.refl _ _⟩
  case rest =>
  obtain ⟨rfl, hc1⟩ := hcut
  have HXc1 := Lib.hid (HX1.out.below hc1)
  have HRc1 := Lib.hid (keepSt hc1 HR1.out)
  have hBc1 := keepBelow hB1 hc1
  clear HX1 HR1 hc1 hB1
  generalize wc = V1 at *
  obtain ⟨⟨B0, B1, B2, B3, B4, B5, B6⟩, _⟩ := HXc1.out
  go_wp2_with fail
  obtain ⟨x2, hx2⟩ : ∃ x, max a t = x := ⟨_, rfl⟩
  obtain ⟨y2, hy2⟩ : ∃ y, max b t = y := ⟨_, rfl⟩
  have GX2 := Lib.hid hx2
  have GY2 := Lib.hid hy2
  have bx2 : -4398046511104 ≤ x2 ∧ x2 ≤ 4398046511104 := by omega
  have by2 : -4398046511104 ≤ y2 ∧ y2 ≤ 4398046511104 := by omega
  have hq2 := HRe.out
  rw [hx2, hy2] at hq2
  have HQ2 := Lib.hid hq2
  clear hx2 hy2 hq2
  go_cut [10, 11] from 14 to 43 (fun u v wx => u = .int .i64 x2 ∧ v = .int .i64 y2 ∧ Below V1.heap.size V1 wx)
  case first =>
    go_region
    all_goals (go_wp2_with fail; go_meet)
    all_goals (case rel => exact ⟨by rw [← GX2.out], by rw [← GY2.out], (Below.refl _ _).drew⟩)
  case rest =>
  obtain ⟨rfl, rfl, hd2⟩ := hcut
  have HX2 := Lib.hid (HXc1.out.below hd2)
  have HR2 := Lib.hid (keepSt hd2 HRc1.out)
  have hB2 := keepBelow hBc1 hd2
  clear hd2 B0 B1 B2 B3 B4 B5 B6
  generalize wc = W2 at *
  go_upto_if 46 with fail
  go_cut [7] from 14 to 57 (fun u wx => u = .int .i64 (cl + cr) ∧ Below W2.heap.size W2 wx)
  case first =>
    obtain ⟨⟨B0, B1, B2, B3, B4, B5, B6⟩, _⟩ := HX2.out
    have e0 := ext_cell B0
    have e1 := ext_cell B1
    have e2 := ext_cell B2
    have e3 := ext_cell B3
    have e4 := ext_cell B4
    have e5 := ext_cell B5
    have e6 := ext_cell B6
    have ER := Lib.hid (ext_rd HR2.out.2.1)
    by_cases hlt : x2 < y2
    · have HL := HQ2.out
      rw [if_pos hlt] at HL
      have kx := BR.out x2
      have ky := BR.out y2
      have KX := fun W h => H2.out x2 W h (by omega) (by omega)
      have KY := fun W h => H2.out y2 W h (by omega) (by omega)
      generalize rankP (Q, m) x2 = rx at *
      generalize rankP (Q, m) y2 = ry at *
      have KX := Lib.hid KX
      have KY := Lib.hid KY
      have g1 : decide (x2 < y2) = true := by simpa using hlt
      have s1 : IntKind.i64.wrap (ry - rx) = ry - rx := by rw [IntKind.wrap_i64]; omega
      have s2 : IntKind.i64.wrap (cl + (ry - rx)) = cl + (ry - rx) := by rw [IntKind.wrap_i64]; omega
      clear H1 H2 H3 HLe HRe HMe BL BR BM
      go_wp2_with fail
      refine wp_region_ext (by kernel_rfl) (by kernel_rfl) ?_
      iterate 12 (go_big_quiet_step ((first | (go_at_call_of 57 (Value.int IntKind.i64 x2); refine calls_ext (KX.out _ (ER.out _))) | (go_at_call_of 57 (Value.int IntKind.i64 y2); refine calls_ext (KY.out _ (ER.out _))))))
      refine wpQuiet_nil ?_
      intro wq hbq
      go_wp2_with fail
      go_meet
      case rel => exact ⟨by congr 1; omega, hbq⟩
    · have HL := HQ2.out
      rw [if_neg hlt] at HL
      have g1 : decide (x2 < y2) = false := by simpa using hlt
      clear H1 H2 H3 HLe HRe HMe BL BR BM
      go_wp2_with fail
      go_meet
      case rel => exact ⟨by congr 1; omega, Below.refl _ _⟩
  case rest =>
  obtain ⟨rfl, hc2⟩ := hcut
  have HXc2 := Lib.hid (HX2.out.below hc2)
  have HRc2 := Lib.hid (keepSt hc2 HR2.out)
  have hBc2 := keepBelow hB2 hc2
  clear HX2 HR2 hc2 hB2
  generalize wc = V2 at *
  obtain ⟨⟨B0, B1, B2, B3, B4, B5, B6⟩, _⟩ := HXc2.out
  go_wp2_with fail
  obtain ⟨x3, hx3⟩ : ∃ x, min (max a f) t = x := ⟨_, rfl⟩
  obtain ⟨y3, hy3⟩ : ∃ y, min (max b f) t = y := ⟨_, rfl⟩
  have GX3 := Lib.hid hx3
  have GY3 := Lib.hid hy3
  have bx3 : -4398046511104 ≤ x3 ∧ x3 ≤ 4398046511104 := by omega
  have by3 : -4398046511104 ≤ y3 ∧ y3 ≤ 4398046511104 := by omega
  have hq3 := HMe.out
  rw [hx3, hy3] at hq3
  have HQ3 := Lib.hid hq3
  clear hx3 hy3 hq3
  go_cut [12, 13] from 14 to 71 (fun u v wx => u = .int .i64 x3 ∧ v = .int .i64 y3 ∧ Below V2.heap.size V2 wx)
  case first =>
    go_region
    all_goals (go_wp2_with fail; go_meet)
    all_goals (case rel => exact ⟨by rw [← GX3.out], by rw [← GY3.out], (Below.refl _ _).drew⟩)
  case rest =>
  obtain ⟨rfl, rfl, hd3⟩ := hcut
  have HX3 := Lib.hid (HXc2.out.below hd3)
  have HR3 := Lib.hid (keepSt hd3 HRc2.out)
  have hB3 := keepBelow hBc2 hd3
  clear hd3 B0 B1 B2 B3 B4 B5 B6
  generalize wc = W3 at *
  go_upto_if 74 with fail
  go_cut [7] from 14 to 85 (fun u wx => u = .int .i64 (cl + cr + cm) ∧ Below W3.heap.size W3 wx)
  case first =>
    obtain ⟨⟨B0, B1, B2, B3, B4, B5, B6⟩, _⟩ := HX3.out
    have e0 := ext_cell B0
    have e1 := ext_cell B1
    have e2 := ext_cell B2
    have e3 := ext_cell B3
    have e4 := ext_cell B4
    have e5 := ext_cell B5
    have e6 := ext_cell B6
    have ER := Lib.hid (ext_rd HR3.out.2.2)
    by_cases hlt : x3 < y3
    · have HL := HQ3.out
      rw [if_pos hlt] at HL
      have kx := BM.out x3
      have ky := BM.out y3
      have KX := H3.out x3
      have KY := H3.out y3
      generalize rank k x3 = rx at *
      generalize rank k y3 = ry at *
      have KX := Lib.hid KX
      have KY := Lib.hid KY
      have g1 : decide (x3 < y3) = true := by simpa using hlt
      have s1 : IntKind.i64.wrap (ry - rx) = ry - rx := by rw [IntKind.wrap_i64]; omega
      have s2 : IntKind.i64.wrap (cl + cr + (ry - rx)) = cl + cr + (ry - rx) := by rw [IntKind.wrap_i64]; omega
      clear H1 H2 H3 HLe HRe HMe BL BR BM
      go_wp2_with fail
      refine wp_region_ext (by kernel_rfl) (by kernel_rfl) ?_
      iterate 12 (go_big_quiet_step ((first | (go_at_call_of 59 (Value.int IntKind.i64 x3); refine calls_ext (KX.out _ (ER.out _))) | (go_at_call_of 59 (Value.int IntKind.i64 y3); refine calls_ext (KY.out _ (ER.out _))))))
      refine wpQuiet_nil ?_
      intro wq hbq
      go_wp2_with fail
      go_meet
      case rel => exact ⟨by congr 1; omega, hbq⟩
    · have HL := HQ3.out
      rw [if_neg hlt] at HL
      have g1 : decide (x3 < y3) = false := by simpa using hlt
      clear H1 H2 H3 HLe HRe HMe BL BR BM
      go_wp2_with fail
      go_meet
      case rel => exact ⟨by congr 1; omega, Below.refl _ _⟩
  case rest =>
  obtain ⟨rfl, hc3⟩ := hcut
  have HXc3 := Lib.hid (HX3.out.below hc3)
  have HRc3 := Lib.hid (keepSt hc3 HR3.out)
  have hBc3 := keepBelow hB3 hc3
  clear HX3 HR3 hc3 hB3
  generalize wc = V3 at *
  obtain ⟨⟨B0, B1, B2, B3, B4, B5, B6⟩, _⟩ := HXc3.out
  go_wp2_with fail
  go_ret
  exact ⟨rfl, hBc3⟩
end Go.Proofs.YtkfonfheakpcbaaGreat
