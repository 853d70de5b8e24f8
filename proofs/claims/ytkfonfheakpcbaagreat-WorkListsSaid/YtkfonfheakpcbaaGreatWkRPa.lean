import Derived.Test.YtkfonfheakpcbaaGreatWkWnd
import Derived.Test.YtkfonfheakpcbaaGreatWkRfD
/- The reference's Valid of an interval and its Parts. -/
namespace Go.Proofs.YtkfonfheakpcbaaGreat
open Go.RowKit Wk

theorem line_iff (x : Int) : lineB x = true ↔ -4398046511104 ≤ x ∧ x ≤ 4398046511104 := by unfold lineB; simp
theorem valid10_any (x y : Int) (w : World) :
    Calls Tryz.prog 68 #[.agg #[.int .i64 x, .int .i64 y]] w fun e w' => e = .returned (.bool (ivB (x, y))) ∧ Below w.heap.size w w' := by
  go_enter Tryz.func68, Tryz.ntmps68
  go_wp2_with (go_at_call 50; refine (line10_any _ _).mono ?_; rintro e w' ⟨rfl, rfl⟩)
  all_goals go_ret
  all_goals exact ⟨ret_bool (by simp [ivB, *]), (Below.refl _ _).alloc (Nat.le_refl _) _⟩
def RPaPost (b : Bool) (s : St) (t n : Int) (w : World) (e : Ending) (w' : World) : Prop :=
  ∃ v, e = .returned (.tuple #[v, .int .i64 (partsM b s t n).2]) ∧ RdS w' v (partsM b s t n).1 ∧ Below w.heap.size w w'

set_option maxRecDepth 100000 in
set_option maxHeartbeats 4000000 in
theorem parts26_any (s : St) (vl vr vv : Value) (t n : Int) (w : World) (h : RdSt w s vl vr vv) :
    Calls Tryz.prog 27 #[.agg #[.int .i64 s.lf.1, vl, .int .i64 s.rt.1, vr, .int .i64 s.fr, .int .i64 s.to, vv], .int .i64 t, .int .i64 n] w (RPaPost (VB s) s t n w) := by
  have HA := Lib.hid (fun W h => add26_any s vl vr vv t n W h)
  have HW : Hid (VB s = true → ∀ u W, RdSt W s vl vr vv → ivB (t, u) = true → Calls Tryz.prog 66 #[.agg #[.int .i64 s.lf.1, vl, .int .i64 s.rt.1, vr, .int .i64 s.fr, .int .i64 s.to, vv], .agg #[.int .i64 t, .int .i64 u]] W (W14Post s t u W)) := fun hv u W h hi => window14_any s vl vr vv t u W h (okS_of_VB hv) hi
  have HGD : Hid (VB s = true → GoodS s) := fun hg => (okS_of_VB hg).good
  generalize VB s = vb at *
  obtain ⟨⟨u, e0⟩, hp⟩ : ∃ p, AddM vb s t n = p := ⟨_, rfl⟩
  rw [hp] at HA
  have HP := Lib.hid hp
  clear hp

  have HR0 := Lib.hid h
  obtain ⟨a1, n1, rfl⟩ := h.1.form
  obtain ⟨a2, n2, rfl⟩ := h.2.1.form
  obtain ⟨a3, n3, rfl⟩ := h.2.2.form
  clear h
  obtain ⟨W, hWe⟩ : ∃ W, w.alloc (.cells #[.int .i64 s.lf.1, .slice a1 s.lf.2.length n1, .int .i64 s.rt.1, .slice a2 s.rt.2.length n2, .int .i64 s.fr, .int .i64 s.to, .slice a3 s.l.length n3] 26) = W := ⟨_, rfl⟩
  have hW : Below w.heap.size w W := by rw [← hWe]; exact (Below.refl _ w).alloc (Nat.le_refl _) _
  have HX : Hid (Set7 W w.heap.size (.int .i64 s.lf.1) (.slice a1 s.lf.2.length n1) (.int .i64 s.rt.1) (.slice a2 s.rt.2.length n2) (.int .i64 s.fr) (.int .i64 s.to) (.slice a3 s.l.length n3)) := by
    rw [← hWe]
    refine ⟨⟨?_, ?_, ?_, ?_, ?_, ?_, ?_⟩, ?_, ?_, ?_, ?_, ?_, ?_, ?_⟩ <;> simp [go_sem]
  have HR := Lib.hid (keepSt hW HR0.out)
  have HE := Lib.hid hWe
  clear hWe HR0
  obtain ⟨⟨B0, B1, B2, B3, B4, B5, B6⟩, _⟩ := HX.out
  go_enter Tryz.func27, Tryz.ntmps27
  go_wp2_with fail
  rw [HE.out]

  go_wp2_with fail
  refine (HA.out _ HR.out).mono ?_
  rintro e w1 ⟨rfl, hb1⟩
  have HX1 := Lib.hid (HX.out.below hb1)
  have HR1 := Lib.hid (keepSt hb1 HR.out)
  have hB1 := keepBelow hW hb1
  clear hb1 B0 B1 B2 B3 B4 B5 B6 HX HR HE HA
  obtain ⟨⟨B0, B1, B2, B3, B4, B5, B6⟩, _⟩ := HX1.out

  by_cases he0 : e0 ≠ 0
  · have g1 : (e0 == 0) = false := by simpa using he0
    have HQ : Hid (partsM vb s t n = ([], e0)) := by unfold Hid partsM; rw [HP.out, if_pos he0]
    go_wp2
    go_ret2
    exact ⟨.slice none 0 0, by rw [HQ.out]; rfl, by rw [HQ.out]; exact rdS_nil _, hB1⟩
  have he0 : e0 = 0 := by omega
  subst he0
  by_cases hut : u = t
  · have g1 : (u == t) = true := by simpa using hut
    have HQ : Hid (partsM vb s t n = ([], 0)) := by unfold Hid partsM; rw [HP.out, if_neg (by simp), if_pos hut]
    clear hut
    go_wp2
    go_ret2
    exact ⟨.slice none 0 0, by rw [HQ.out]; rfl, by rw [HQ.out]; exact rdS_nil _, hB1⟩
  have g1 : (u == t) = false := by simpa using hut
  have HQ : Hid (partsM vb s t n = winM vb s t u) := by unfold Hid partsM; rw [HP.out, if_neg (by simp), if_neg hut]
  have hok := AddM_ok HP.out
  obtain ⟨hvb, hln, hn0, hn1, had⟩ := hok
  have hln := (line_iff t).1 hln
  have hau := addM_ok (HGD.out hvb) hln.2 hn0 had
  have hiv : ivB (t, u) = true := (ivB_iff (t, u)).2 ⟨hln.1, by omega, hau.2.2.1⟩
  have K := Lib.hid (fun W h => HW.out hvb u W h hiv)
  have HWM : Hid (winM vb s t u = winM true s t u) := by rw [hvb]; rfl
  clear hvb hln hn0 hn1 had hau hiv HGD HW
  go_wp2_with fail
  refine (K.out _ HR1.out).mono ?_
  rintro e w2 ⟨v, rfl, hr, hb2⟩
  have hB2 := keepBelow hB1 hb2
  clear hb2 B0 B1 B2 B3 B4 B5 B6 HX1 HR1
  obtain ⟨av, nv, rfl⟩ := hr.form
  go_wp2
  go_ret2
  exact ⟨_, by rw [HQ.out, HWM.out]; rfl, by rw [HQ.out, HWM.out]; exact hr, hB2⟩
end Go.Proofs.YtkfonfheakpcbaaGreat
