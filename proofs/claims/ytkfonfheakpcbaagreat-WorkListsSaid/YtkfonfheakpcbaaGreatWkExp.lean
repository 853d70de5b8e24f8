import Derived.Test.YtkfonfheakpcbaaGreatWkAdd
/- work: Measure, Add, Deadline. -/
namespace Go.Proofs.YtkfonfheakpcbaaGreat
open Go.RowKit Wk

set_option maxRecDepth 100000 in
set_option maxHeartbeats 4000000 in
theorem wmeasure_any (s : St) (vl vr vv : Value) (x y : Int) (w : World) (h : RdSt w s vl vr vv) :
    Calls Tryz.prog 15 #[.agg #[.int .i64 s.lf.1, vl, .int .i64 s.rt.1, vr, .int .i64 s.fr, .int .i64 s.to, vv], .int .i64 x, .int .i64 y] w fun e w' => e = .returned (.tuple #[.int .i64 (MeaM (VB s) s x y).1, .int .i64 (MeaM (VB s) s x y).2]) ∧ Below w.heap.size w w' := by
  have HVO : Hid (VB s = true → OkS s) := fun hg => okS_of_VB hg
  have HFC : Hid (∀ x W, RdSt W s vl vr vv → Calls Tryz.prog 38 #[.agg #[.int .i64 s.lf.1, vl, .int .i64 s.rt.1, vr, .int .i64 s.fr, .int .i64 s.to, vv], .int .i64 x] W fun e w' => e = .returned (.int .i64 (faultM (VB s) x)) ∧ Below W.heap.size W w') := fun x W h => wfault_any s vl vr vv x W h
  have HLC : Hid (∀ x W, Calls Tryz.prog 41 #[.int .i64 x] W fun e w' => e = .returned (.bool (lineB x)) ∧ W = w') := fun x W => kline_any x W
  have HAC : Hid (∀ x W, Calls Tryz.prog 39 #[.int .i64 x] W fun e w' => e = .returned (.bool (amountB x)) ∧ W = w') := fun x W => amount_any x W
  have HC : Hid (VB s = true → ∀ a b W, RdSt W s vl vr vv → -4398046511104 ≤ a → a ≤ 4398046511104 → -4398046511104 ≤ b → b ≤ 4398046511104 → Calls Tryz.prog 51 #[.agg #[.int .i64 s.lf.1, vl, .int .i64 s.rt.1, vr, .int .i64 s.fr, .int .i64 s.to, vv], .int .i64 a, .int .i64 b] W fun e w' => e = .returned (.int .i64 (cnt s a b)) ∧ Below W.heap.size W w') := fun hg a b W h h1 h2 h3 h4 => wcount_any s vl vr vv a b W h (okS_of_VB hg) h1 h2 h3 h4
  have HAD : Hid (VB s = true → ∀ a b W, RdSt W s vl vr vv → -4398046511104 ≤ a → a ≤ 4398046511104 → 0 ≤ b → b ≤ 8796093022208 → Calls Tryz.prog 42 #[.agg #[.int .i64 s.lf.1, vl, .int .i64 s.rt.1, vr, .int .i64 s.fr, .int .i64 s.to, vv], .int .i64 a, .int .i64 b] W fun e w' => e = .returned (.tuple #[.int .i64 (addM s a b).1, .int .i64 (addM s a b).2]) ∧ Below W.heap.size W w') := fun hg a b W h h1 h2 h3 h4 => wadd_any s vl vr vv a b W h (okS_of_VB hg) h1 h2 h3 h4
  have HGS : Hid (VB s = true → GoodS s) := fun hg => (okS_of_VB hg).good
  generalize VB s = vb at *
  have HR0 := Lib.hid h
  obtain ⟨a1, n1, rfl⟩ := h.1.form
  obtain ⟨a2, n2, rfl⟩ := h.2.1.form
  obtain ⟨a3, n3, rfl⟩ := h.2.2.form
  clear h
  obtain ⟨W, hWe⟩ : ∃ W, w.alloc (.cells #[.int .i64 s.lf.1, .slice a1 s.lf.2.length n1, .int .i64 s.rt.1, .slice a2 s.rt.2.length n2, .int .i64 s.fr, .int .i64 s.to, .slice a3 s.l.length n3] 26) = W := ⟨_, rfl⟩
  have hW : Below w.heap.size w W := by rw [← hWe]; exact (Below.refl _ w).alloc (Nat.le_refl _) _
  have HX : Hid (Set7 W w.heap.size (.int .i64 s.lf.1) (.slice a1 s.lf.2.length n1) (.int .i64 s.rt.1) (.slice a2 s.rt.2.length n2) (.int .i64 s.fr) (.int .i64 s.to) (.slice a3 s.l.length n3)) := by
    rw [← hWe]
    refine ⟨⟨?_, ?_, ?_, ?_, ?_, ?_, ?_⟩, ?_, ?_, ?_, ?_, ?_, ?_, ?_⟩ <;> simp [go_sem]
  have HR := Lib.hid (keepSt hW HR0.out)
  have HE := Lib.hid hWe
  clear hWe HR0
  obtain ⟨⟨B0, B1, B2, B3, B4, B5, B6⟩, _⟩ := HX.out
  go_enter Tryz.func15, Tryz.ntmps15
  go_wp2_with fail
  rw [HE.out]
  go_wp2_with fail
  refine (HFC.out x _ HR.out).mono ?_
  rintro e w1 ⟨rfl, hb1⟩
  have HX1 := Lib.hid (HX.out.below hb1)
  have HR1 := Lib.hid (keepSt hb1 HR.out)
  have hB1 := keepBelow hW hb1
  clear hb1 B0 B1 B2 B3 B4 B5 B6 HX HR HE
  obtain ⟨⟨B0, B1, B2, B3, B4, B5, B6⟩, _⟩ := HX1.out

  obtain ⟨f, hf⟩ : ∃ f, faultM vb x = f := ⟨_, rfl⟩
  rw [hf]
  by_cases hf0 : f ≠ 0
  · have HQ : Hid (MeaM vb s x y = (0, f)) := by unfold Hid MeaM; rw [hf, if_pos hf0]
    have g1 : (f == 0) = false := by simpa using hf0
    clear hf
    go_wp2
    go_ret2
    exact ⟨by rw [HQ.out]; rfl, hB1⟩
  have hf0 : f = 0 := by omega
  subst hf0
  obtain ⟨hvb, hlx⟩ := fault_iff.1 hf
  have HF := Lib.hid hf
  have HGS := Lib.hid (HGS.out hvb)
  have HC := Lib.hid (HC.out hvb)
  have HAD := Lib.hid (HAD.out hvb)
  have hlx := (lineB_iff x).1 hlx
  clear hf

  go_wp2_with fail
  refine (HLC.out y _).mono ?_
  rintro e w2 ⟨rfl, rfl⟩
  cases hly : lineB y with
  | false =>
    have HQ : Hid (MeaM vb s x y = (0, 2)) := by unfold Hid MeaM; rw [HF.out, if_neg (by simp), if_pos hly]
    clear hly
    go_wp2
    go_ret2
    exact ⟨by rw [HQ.out]; rfl, hB1⟩
  | true =>
  have HY := Lib.hid hly
  have hly := (lineB_iff y).1 hly
  by_cases hyx : y < x
  · have HQ : Hid (MeaM vb s x y = (-cnt s y x, 0)) := by unfold Hid MeaM; rw [HF.out, if_neg (by simp), if_neg (by rw [HY.out]; simp), if_pos hyx]
    have g2 : decide (y < x) = true := by simpa using hyx
    have hp := cnt_pot s HGS.out.ft y x (by omega)
    have hmo := (potS_steps HGS.out).mono y x (by omega)
    obtain ⟨k, hk⟩ : ∃ k, cnt s y x = k := ⟨_, rfl⟩
    have HCk := HC.out y x _ HR1.out (by omega) (by omega) (by omega) (by omega)
    rw [hk] at HQ hp HCk
    have s1 : IntKind.i64.wrap (-k) = -k := by rw [IntKind.wrap_i64]; omega
    clear hk hp hmo
    go_wp2_with fail
    refine HCk.mono ?_
    rintro e w3 ⟨rfl, hb3⟩
    go_wp2
    go_ret2
    exact ⟨by rw [HQ.out]; rfl, keepBelow hB1 hb3⟩
  · have HQ : Hid (MeaM vb s x y = (cnt s x y, 0)) := by unfold Hid MeaM; rw [HF.out, if_neg (by simp), if_neg (by rw [HY.out]; simp), if_neg hyx]
    have g2 : decide (y < x) = false := by simpa using hyx
    go_wp2_with fail
    refine (HC.out x y _ HR1.out (by omega) (by omega) (by omega) (by omega)).mono ?_
    rintro e w3 ⟨rfl, hb3⟩
    go_wp2
    go_ret2
    exact ⟨by rw [HQ.out]; rfl, keepBelow hB1 hb3⟩

set_option maxRecDepth 100000 in
set_option maxHeartbeats 4000000 in
theorem wAdd_any (s : St) (vl vr vv : Value) (t n : Int) (w : World) (h : RdSt w s vl vr vv) :
    Calls Tryz.prog 17 #[.agg #[.int .i64 s.lf.1, vl, .int .i64 s.rt.1, vr, .int .i64 s.fr, .int .i64 s.to, vv], .int .i64 t, .int .i64 n] w fun e w' => e = .returned (.tuple #[.int .i64 (AddM (VB s) s t n).1, .int .i64 (AddM (VB s) s t n).2]) ∧ Below w.heap.size w w' := by
  have HVO : Hid (VB s = true → OkS s) := fun hg => okS_of_VB hg
  have HFC : Hid (∀ x W, RdSt W s vl vr vv → Calls Tryz.prog 38 #[.agg #[.int .i64 s.lf.1, vl, .int .i64 s.rt.1, vr, .int .i64 s.fr, .int .i64 s.to, vv], .int .i64 x] W fun e w' => e = .returned (.int .i64 (faultM (VB s) x)) ∧ Below W.heap.size W w') := fun x W h => wfault_any s vl vr vv x W h
  have HLC : Hid (∀ x W, Calls Tryz.prog 41 #[.int .i64 x] W fun e w' => e = .returned (.bool (lineB x)) ∧ W = w') := fun x W => kline_any x W
  have HAC : Hid (∀ x W, Calls Tryz.prog 39 #[.int .i64 x] W fun e w' => e = .returned (.bool (amountB x)) ∧ W = w') := fun x W => amount_any x W
  have HC : Hid (VB s = true → ∀ a b W, RdSt W s vl vr vv → -4398046511104 ≤ a → a ≤ 4398046511104 → -4398046511104 ≤ b → b ≤ 4398046511104 → Calls Tryz.prog 51 #[.agg #[.int .i64 s.lf.1, vl, .int .i64 s.rt.1, vr, .int .i64 s.fr, .int .i64 s.to, vv], .int .i64 a, .int .i64 b] W fun e w' => e = .returned (.int .i64 (cnt s a b)) ∧ Below W.heap.size W w') := fun hg a b W h h1 h2 h3 h4 => wcount_any s vl vr vv a b W h (okS_of_VB hg) h1 h2 h3 h4
  have HAD : Hid (VB s = true → ∀ a b W, RdSt W s vl vr vv → -4398046511104 ≤ a → a ≤ 4398046511104 → 0 ≤ b → b ≤ 8796093022208 → Calls Tryz.prog 42 #[.agg #[.int .i64 s.lf.1, vl, .int .i64 s.rt.1, vr, .int .i64 s.fr, .int .i64 s.to, vv], .int .i64 a, .int .i64 b] W fun e w' => e = .returned (.tuple #[.int .i64 (addM s a b).1, .int .i64 (addM s a b).2]) ∧ Below W.heap.size W w') := fun hg a b W h h1 h2 h3 h4 => wadd_any s vl vr vv a b W h (okS_of_VB hg) h1 h2 h3 h4
  have HGS : Hid (VB s = true → GoodS s) := fun hg => (okS_of_VB hg).good
  generalize VB s = vb at *
  have HR0 := Lib.hid h
  obtain ⟨a1, n1, rfl⟩ := h.1.form
  obtain ⟨a2, n2, rfl⟩ := h.2.1.form
  obtain ⟨a3, n3, rfl⟩ := h.2.2.form
  clear h
  obtain ⟨W, hWe⟩ : ∃ W, w.alloc (.cells #[.int .i64 s.lf.1, .slice a1 s.lf.2.length n1, .int .i64 s.rt.1, .slice a2 s.rt.2.length n2, .int .i64 s.fr, .int .i64 s.to, .slice a3 s.l.length n3] 26) = W := ⟨_, rfl⟩
  have hW : Below w.heap.size w W := by rw [← hWe]; exact (Below.refl _ w).alloc (Nat.le_refl _) _
  have HX : Hid (Set7 W w.heap.size (.int .i64 s.lf.1) (.slice a1 s.lf.2.length n1) (.int .i64 s.rt.1) (.slice a2 s.rt.2.length n2) (.int .i64 s.fr) (.int .i64 s.to) (.slice a3 s.l.length n3)) := by
    rw [← hWe]
    refine ⟨⟨?_, ?_, ?_, ?_, ?_, ?_, ?_⟩, ?_, ?_, ?_, ?_, ?_, ?_, ?_⟩ <;> simp [go_sem]
  have HR := Lib.hid (keepSt hW HR0.out)
  have HE := Lib.hid hWe
  clear hWe HR0
  obtain ⟨⟨B0, B1, B2, B3, B4, B5, B6⟩, _⟩ := HX.out
  go_enter Tryz.func17, Tryz.ntmps17
  go_wp2_with fail
  rw [HE.out]
  go_wp2_with fail
  refine (HFC.out t _ HR.out).mono ?_
  rintro e w1 ⟨rfl, hb1⟩
  have HX1 := Lib.hid (HX.out.below hb1)
  have HR1 := Lib.hid (keepSt hb1 HR.out)
  have hB1 := keepBelow hW hb1
  clear hb1 B0 B1 B2 B3 B4 B5 B6 HX HR HE
  obtain ⟨⟨B0, B1, B2, B3, B4, B5, B6⟩, _⟩ := HX1.out

  obtain ⟨f, hf⟩ : ∃ f, faultM vb t = f := ⟨_, rfl⟩
  rw [hf]
  by_cases hf0 : f ≠ 0
  · have HQ : Hid (AddM vb s t n = (0, f)) := by unfold Hid AddM; rw [hf, if_pos hf0]
    have g1 : (f == 0) = false := by simpa using hf0
    clear hf
    go_wp2
    go_ret2
    exact ⟨by rw [HQ.out]; rfl, hB1⟩
  have hf0 : f = 0 := by omega
  subst hf0
  obtain ⟨hvb, hlx⟩ := fault_iff.1 hf
  have HF := Lib.hid hf
  have HGS := Lib.hid (HGS.out hvb)
  have HC := Lib.hid (HC.out hvb)
  have HAD := Lib.hid (HAD.out hvb)
  have hlx := (lineB_iff t).1 hlx
  clear hf

  go_wp2_with fail

  refine (HAC.out n _).mono ?_
  rintro e w2 ⟨rfl, rfl⟩
  cases hln : amountB n with
  | false =>
    have HQ : Hid (AddM vb s t n = (0, 2)) := by unfold Hid AddM; rw [HF.out, if_neg (by simp), if_pos hln]
    clear hln
    go_wp2
    go_ret2
    exact ⟨by rw [HQ.out]; rfl, hB1⟩
  | true =>
  have HN := Lib.hid hln
  have hn : 0 ≤ n ∧ n ≤ 8796093022208 := by unfold amountB at hln; simpa using hln

  have HQ : Hid (AddM vb s t n = addM s t n) := by unfold Hid AddM; rw [HF.out, if_neg (by simp), if_neg (by rw [HN.out]; simp)]
  clear hln
  go_wp2_with fail
  refine (HAD.out t n _ HR1.out hlx.1 hlx.2 hn.1 hn.2).mono ?_
  rintro e w3 ⟨rfl, hb3⟩
  go_wp2
  go_ret2
  exact ⟨by rw [HQ.out]; rfl, keepBelow hB1 hb3⟩

set_option maxRecDepth 100000 in
set_option maxHeartbeats 4000000 in
theorem wDeadline_any (s : St) (vl vr vv : Value) (t n cut : Int) (w : World) (h : RdSt w s vl vr vv) :
    Calls Tryz.prog 11 #[.agg #[.int .i64 s.lf.1, vl, .int .i64 s.rt.1, vr, .int .i64 s.fr, .int .i64 s.to, vv], .int .i64 t, .int .i64 n, .int .i64 cut] w fun e w' => e = .returned (.tuple #[.int .i64 (DlM (VB s) s t n cut).1, .int .i64 (DlM (VB s) s t n cut).2]) ∧ Below w.heap.size w w' := by
  have HVO : Hid (VB s = true → OkS s) := fun hg => okS_of_VB hg
  have HFC : Hid (∀ x W, RdSt W s vl vr vv → Calls Tryz.prog 38 #[.agg #[.int .i64 s.lf.1, vl, .int .i64 s.rt.1, vr, .int .i64 s.fr, .int .i64 s.to, vv], .int .i64 x] W fun e w' => e = .returned (.int .i64 (faultM (VB s) x)) ∧ Below W.heap.size W w') := fun x W h => wfault_any s vl vr vv x W h
  have HLC : Hid (∀ x W, Calls Tryz.prog 41 #[.int .i64 x] W fun e w' => e = .returned (.bool (lineB x)) ∧ W = w') := fun x W => kline_any x W
  have HAC : Hid (∀ x W, Calls Tryz.prog 39 #[.int .i64 x] W fun e w' => e = .returned (.bool (amountB x)) ∧ W = w') := fun x W => amount_any x W
  have HC : Hid (VB s = true → ∀ a b W, RdSt W s vl vr vv → -4398046511104 ≤ a → a ≤ 4398046511104 → -4398046511104 ≤ b → b ≤ 4398046511104 → Calls Tryz.prog 51 #[.agg #[.int .i64 s.lf.1, vl, .int .i64 s.rt.1, vr, .int .i64 s.fr, .int .i64 s.to, vv], .int .i64 a, .int .i64 b] W fun e w' => e = .returned (.int .i64 (cnt s a b)) ∧ Below W.heap.size W w') := fun hg a b W h h1 h2 h3 h4 => wcount_any s vl vr vv a b W h (okS_of_VB hg) h1 h2 h3 h4
  have HAD : Hid (VB s = true → ∀ a b W, RdSt W s vl vr vv → -4398046511104 ≤ a → a ≤ 4398046511104 → 0 ≤ b → b ≤ 8796093022208 → Calls Tryz.prog 42 #[.agg #[.int .i64 s.lf.1, vl, .int .i64 s.rt.1, vr, .int .i64 s.fr, .int .i64 s.to, vv], .int .i64 a, .int .i64 b] W fun e w' => e = .returned (.tuple #[.int .i64 (addM s a b).1, .int .i64 (addM s a b).2]) ∧ Below W.heap.size W w') := fun hg a b W h h1 h2 h3 h4 => wadd_any s vl vr vv a b W h (okS_of_VB hg) h1 h2 h3 h4
  have HGS : Hid (VB s = true → GoodS s) := fun hg => (okS_of_VB hg).good
  generalize VB s = vb at *
  have HW : Hid (∀ W, -4398046511104 ≤ t → t ≤ 4398046511104 → Calls Tryz.prog 40 #[.int .i64 t, .int .i64 86400] W fun e w' => e = .returned (.int .i64 (t / 86400)) ∧ W = w') := fun W h1 h2 => wfloor_any t 86400 W (by omega) (by omega) (by omega) (by omega)
  have HR0 := Lib.hid h
  obtain ⟨a1, n1, rfl⟩ := h.1.form
  obtain ⟨a2, n2, rfl⟩ := h.2.1.form
  obtain ⟨a3, n3, rfl⟩ := h.2.2.form
  clear h
  obtain ⟨W, hWe⟩ : ∃ W, w.alloc (.cells #[.int .i64 s.lf.1, .slice a1 s.lf.2.length n1, .int .i64 s.rt.1, .slice a2 s.rt.2.length n2, .int .i64 s.fr, .int .i64 s.to, .slice a3 s.l.length n3] 26) = W := ⟨_, rfl⟩
  have hW : Below w.heap.size w W := by rw [← hWe]; exact (Below.refl _ w).alloc (Nat.le_refl _) _
  have HX : Hid (Set7 W w.heap.size (.int .i64 s.lf.1) (.slice a1 s.lf.2.length n1) (.int .i64 s.rt.1) (.slice a2 s.rt.2.length n2) (.int .i64 s.fr) (.int .i64 s.to) (.slice a3 s.l.length n3)) := by
    rw [← hWe]
    refine ⟨⟨?_, ?_, ?_, ?_, ?_, ?_, ?_⟩, ?_, ?_, ?_, ?_, ?_, ?_, ?_⟩ <;> simp [go_sem]
  have HR := Lib.hid (keepSt hW HR0.out)
  have HE := Lib.hid hWe
  clear hWe HR0
  obtain ⟨⟨B0, B1, B2, B3, B4, B5, B6⟩, _⟩ := HX.out
  go_enter Tryz.func11, Tryz.ntmps11
  go_wp2_with fail
  rw [HE.out]
  go_wp2_with fail
  refine (HFC.out t _ HR.out).mono ?_
  rintro e w1 ⟨rfl, hb1⟩
  have HX1 := Lib.hid (HX.out.below hb1)
  have HR1 := Lib.hid (keepSt hb1 HR.out)
  have hB1 := keepBelow hW hb1
  clear hb1 B0 B1 B2 B3 B4 B5 B6 HX HR HE
  obtain ⟨⟨B0, B1, B2, B3, B4, B5, B6⟩, _⟩ := HX1.out

  obtain ⟨f, hf⟩ : ∃ f, faultM vb t = f := ⟨_, rfl⟩
  rw [hf]
  by_cases hf0 : f ≠ 0
  · have HQ : Hid (DlM vb s t n cut = (0, f)) := by unfold Hid DlM; rw [hf, if_pos hf0]
    have g1 : (f == 0) = false := by simpa using hf0
    clear hf
    go_wp2
    go_ret2
    exact ⟨by rw [HQ.out]; rfl, hB1⟩
  have hf0 : f = 0 := by omega
  subst hf0
  obtain ⟨hvb, hlx⟩ := fault_iff.1 hf
  have HF := Lib.hid hf
  have HGS := Lib.hid (HGS.out hvb)
  have HC := Lib.hid (HC.out hvb)
  have HAD := Lib.hid (HAD.out hvb)
  have hlx := (lineB_iff t).1 hlx
  clear hf

  go_wp2_with fail

  refine (HAC.out n _).mono ?_
  rintro e w2 ⟨rfl, rfl⟩
  cases hln : amountB n with
  | false =>
    have HQ : Hid (DlM vb s t n cut = (0, 2)) := by unfold Hid DlM; rw [HF.out, if_neg (by simp), if_pos (.inl hln)]
    clear hln
    go_wp2
    go_ret2
    exact ⟨by rw [HQ.out]; rfl, hB1⟩
  | true =>
  have HN := Lib.hid hln
  have hn : 0 ≤ n ∧ n ≤ 8796093022208 := by unfold amountB at hln; simpa using hln

  clear hln
  by_cases hc0 : cut < 0
  · have g2 : decide (cut < 0) = true := by simpa using hc0
    have HQ : Hid (DlM vb s t n cut = (0, 2)) := by unfold Hid DlM; rw [HF.out, if_neg (by simp), if_pos (.inr (.inl hc0))]
    go_wp2
    go_ret2
    exact ⟨by rw [HQ.out]; rfl, hB1⟩

  have g2 : decide (cut < 0) = false := by simpa using hc0
  by_cases hc1 : 86400 < cut
  · have g3 : decide (86400 < cut) = true := by simpa using hc1
    have HQ : Hid (DlM vb s t n cut = (0, 2)) := by unfold Hid DlM; rw [HF.out, if_neg (by simp), if_pos (.inr (.inr hc1))]
    go_wp2
    go_ret2
    exact ⟨by rw [HQ.out]; rfl, hB1⟩

  have g3 : decide (86400 < cut) = false := by simpa using hc1
  have HOK : Hid (¬ (amountB n = false ∨ cut < 0 ∨ 86400 < cut)) := by unfold Hid; rw [HN.out]; simp; omega
  go_wp2_with fail
  refine (HW.out _ hlx.1 hlx.2).mono ?_
  rintro e w3 ⟨rfl, rfl⟩
  have hmo := mod_lo t (P := 86400) (by omega)
  have HU0 : Hid (cutT0 t cut = if cut ≤ t - t / 86400 * 86400 then (t / 86400 + 1) * 86400 else t) := rfl
  obtain ⟨q, hq⟩ : ∃ q, t / 86400 = q := ⟨_, rfl⟩
  rw [hq] at hmo HU0 ⊢
  clear hq
  have s1 : IntKind.i64.wrap (q * 86400) = q * 86400 := by rw [IntKind.wrap_i64]; omega
  have s2 : IntKind.i64.wrap (t - q * 86400) = t - q * 86400 := by rw [IntKind.wrap_i64]; omega
  have s3 : IntKind.i64.wrap (q + 1) = q + 1 := by rw [IntKind.wrap_i64]; omega
  have s4 : IntKind.i64.wrap ((q + 1) * 86400) = (q + 1) * 86400 := by rw [IntKind.wrap_i64]; omega
  by_cases hcq : cut ≤ t - q * 86400
  · have g4 : decide (cut ≤ t - q * 86400) = true := by simpa using hcq
    have HU : Hid (cutT0 t cut = (q + 1) * 86400) := by unfold Hid; rw [HU0.out, if_pos hcq]
    go_wp2_with fail
    refine (HLC.out ((q + 1) * 86400) _).mono ?_
    rintro e w4 ⟨rfl, rfl⟩
    cases hlu : lineB ((q + 1) * 86400) with
    | false =>
      have HQ : Hid (DlM vb s t n cut = (0, 2)) := by unfold Hid DlM; rw [HF.out, if_neg (by simp), if_neg HOK.out, HU.out, if_pos hlu]
      clear hlu
      go_wp2
      go_ret2
      exact ⟨by rw [HQ.out]; rfl, hB1⟩
    | true =>
    have HQ : Hid (DlM vb s t n cut = addM s ((q + 1) * 86400) n) := by unfold Hid DlM; rw [HF.out, if_neg (by simp), if_neg HOK.out, HU.out, if_neg (by rw [hlu]; simp)]
    have hlu := (lineB_iff ((q + 1) * 86400)).1 hlu
    go_wp2_with fail
    refine (HAD.out ((q + 1) * 86400) n _ HR1.out hlu.1 hlu.2 hn.1 hn.2).mono ?_
    rintro e w5 ⟨rfl, hb5⟩
    go_wp2
    go_ret2
    exact ⟨by rw [HQ.out]; rfl, keepBelow hB1 hb5⟩

  · have g4 : decide (cut ≤ t - q * 86400) = false := by simpa using hcq
    have HU : Hid (cutT0 t cut = t) := by unfold Hid; rw [HU0.out, if_neg hcq]
    go_wp2_with fail
    refine (HLC.out t _).mono ?_
    rintro e w4 ⟨rfl, rfl⟩
    cases hlu : lineB t with
    | false =>
      have HQ : Hid (DlM vb s t n cut = (0, 2)) := by unfold Hid DlM; rw [HF.out, if_neg (by simp), if_neg HOK.out, HU.out, if_pos hlu]
      clear hlu
      go_wp2
      go_ret2
      exact ⟨by rw [HQ.out]; rfl, hB1⟩
    | true =>
    have HQ : Hid (DlM vb s t n cut = addM s t n) := by unfold Hid DlM; rw [HF.out, if_neg (by simp), if_neg HOK.out, HU.out, if_neg (by rw [hlu]; simp)]
    have hlu := (lineB_iff t).1 hlu
    go_wp2_with fail
    refine (HAD.out t n _ HR1.out hlu.1 hlu.2 hn.1 hn.2).mono ?_
    rintro e w5 ⟨rfl, hb5⟩
    go_wp2
    go_ret2
    exact ⟨by rw [HQ.out]; rfl, keepBelow hB1 hb5⟩
end Go.Proofs.YtkfonfheakpcbaaGreat
