/- The laws WorkUndone. -/
import Derived.Test.YtkfonfheakpcbaaWkHrs
import Derived.Test.YtkfonfheakpcbaaWkSub
namespace Go.Proofs.Ytkfonfheakpcbaa
open Go.RowKit Wk

set_option maxRecDepth 100000 in
set_option maxHeartbeats 4000000 in
theorem law_WorkUndone (s : St) (vl vr vv : Value) (t n m : Int) (w : World) (h : RdSt w s vl vr vv) :
    Calls Try.prog 5 #[.agg #[.int .i64 s.lf.1, vl, .int .i64 s.rt.1, vr, .int .i64 s.fr, .int .i64 s.to, vv], .int .i64 t, .int .i64 n, .int .i64 m] w fun e w' => e = .returned (.bool true) ∧ Below w.heap.size w w' := by
  have HA := Lib.hid (fun W => awake_any W)
  have HLG := Lib.hid (fun W h => large_any s vl vr vv W h)
  have KM : Hid (∀ (x y : Int), ∀ W, RdSt W s vl vr vv → Calls Try.prog 14 #[.agg #[.int .i64 s.lf.1, vl, .int .i64 s.rt.1, vr, .int .i64 s.fr, .int .i64 s.to, vv], .int .i64 x, .int .i64 y] W fun e w' => e = .returned (.tuple #[.int .i64 (MeaM (VB s) s x y).1, .int .i64 (MeaM (VB s) s x y).2]) ∧ Below W.heap.size W w') := fun x y W h => wmeasure_any s vl vr vv x y W h
  have KA : Hid (∀ (x y : Int), ∀ W, RdSt W s vl vr vv → Calls Try.prog 12 #[.agg #[.int .i64 s.lf.1, vl, .int .i64 s.rt.1, vr, .int .i64 s.fr, .int .i64 s.to, vv], .int .i64 x, .int .i64 y] W fun e w' => e = .returned (.tuple #[.int .i64 (AddM (VB s) s x y).1, .int .i64 (AddM (VB s) s x y).2]) ∧ Below W.heap.size W w') := fun x y W h => wAdd_any s vl vr vv x y W h
  have KS : Hid (∀ (x y : Int), ∀ W, RdSt W s vl vr vv → Calls Try.prog 15 #[.agg #[.int .i64 s.lf.1, vl, .int .i64 s.rt.1, vr, .int .i64 s.fr, .int .i64 s.to, vv], .int .i64 x, .int .i64 y] W fun e w' => e = .returned (.tuple #[.int .i64 (SubM (VB s) s x y).1, .int .i64 (SubM (VB s) s x y).2]) ∧ Below W.heap.size W w') := fun x y W h => wSub_any s vl vr vv x y W h
  have KH : Hid (∀ (x : Int), ∀ W, RdSt W s vl vr vv → -1152921504606846976 ≤ x → x ≤ 1152921504606846976 → Calls Try.prog 16 #[.agg #[.int .i64 s.lf.1, vl, .int .i64 s.rt.1, vr, .int .i64 s.fr, .int .i64 s.to, vv], .int .i64 x] W fun e w' => e = .returned (.bool (VB s && hasS s x)) ∧ Below W.heap.size W w') := fun x W h h1 h2 => thas_any s vl vr vv x W h h1 h2
  have HGD : Hid (VB s = true → GoodS s) := fun hg => (okS_of_VB hg).good
  generalize VB s = vb at *
  generalize largeB s = lg at *

  have HR0 := Lib.hid h
  obtain ⟨a1, n1, rfl⟩ := h.1.form
  obtain ⟨a2, n2, rfl⟩ := h.2.1.form
  obtain ⟨a3, n3, rfl⟩ := h.2.2.form
  clear h
  obtain ⟨W, hWe⟩ : ∃ W, w.alloc (.cells #[.int .i64 s.lf.1, .slice a1 s.lf.2.length n1, .int .i64 s.rt.1, .slice a2 s.rt.2.length n2, .int .i64 s.fr, .int .i64 s.to, .slice a3 s.l.length n3] 26) = W := ⟨_, rfl⟩
  have hW : Below w.heap.size w W := by rw [← hWe]; exact (Below.refl _ w).alloc (Nat.le_refl _) _
  have HX : Hid (Set7 W w.heap.size (.int .i64 s.lf.1) (.slice a1 s.lf.2.length n1) (.int .i64 s.rt.1) (.slice a2 s.rt.2.length n2) (.int .i64 s.fr) (.int .i64 s.to) (.slice a3 s.l.length n3)) := by
    rw [← hWe]
    refine ⟨⟨?_, ?_, ?_, ?_, ?_, ?_, ?_⟩, ?_, ?_, ?_, ?_, ?_, ?_, ?_⟩ <;> simp [go_sem]
  have HR := Lib.hid (keepSt hW HR0.out)
  have HE := Lib.hid hWe
  clear hWe HR0
  obtain ⟨⟨B0, B1, B2, B3, B4, B5, B6⟩, _⟩ := HX.out
  go_enter Try.func5, Try.ntmps5
  go_wp2_with fail
  rw [HE.out]

  go_wp2_with fail
  refine (HA.out _).mono ?_
  rintro e w1 ⟨rfl, hb1⟩
  have HX1 := Lib.hid (HX.out.below hb1)
  have HR1 := Lib.hid (keepSt hb1 HR.out)
  have hB1 := keepBelow hW hb1
  clear hb1 B0 B1 B2 B3 B4 B5 B6 HX HR HE HA
  obtain ⟨⟨B0, B1, B2, B3, B4, B5, B6⟩, _⟩ := HX1.out

  go_wp2_with fail
  refine (HLG.out _ HR1.out).mono ?_
  rintro e w2 ⟨rfl, hb2⟩
  have HX2 := Lib.hid (HX1.out.below hb2)
  have HR2 := Lib.hid (keepSt hb2 HR1.out)
  have hB2 := keepBelow hB1 hb2
  clear hb2 B0 B1 B2 B3 B4 B5 B6 HX1 HR1 HLG
  obtain ⟨⟨B0, B1, B2, B3, B4, B5, B6⟩, _⟩ := HX2.out

  cases lg with
  | true =>
    go_wp2
    go_ret
    exact ⟨rfl, hB2⟩
  | false =>

  by_cases hm0 : m < 0
  · have g1 : decide (m < 0) = true := by simpa using hm0
    go_wp2
    go_ret
    exact ⟨rfl, hB2⟩

  have g1 : decide (m < 0) = false := by simpa using hm0
  by_cases hm1 : 1099511627776 < m
  · have g2 : decide (1099511627776 < m) = true := by simpa using hm1
    go_wp2
    go_ret
    exact ⟨rfl, hB2⟩

  have g2 : decide (1099511627776 < m) = false := by simpa using hm1
  by_cases hn1 : 1099511627776 < n
  · have g3 : decide (1099511627776 < n) = true := by simpa using hn1
    go_wp2
    go_ret
    exact ⟨rfl, hB2⟩

  have g3 : decide (1099511627776 < n) = false := by simpa using hn1
  obtain ⟨⟨u, e0⟩, hp⟩ : ∃ p, AddM vb s t n = p := ⟨_, rfl⟩
  have KA1 := KA.out t n
  rw [hp] at KA1
  have HP := Lib.hid hp
  have KA1 := Lib.hid KA1
  clear hp
  go_wp2_with fail
  refine (KA1.out _ HR2.out).mono ?_
  rintro e' w3 ⟨rfl, hb3⟩
  have HX3 := Lib.hid (HX2.out.below hb3)
  have HR3 := Lib.hid (keepSt hb3 HR2.out)
  have hB3 := keepBelow hB2 hb3
  clear hb3 B0 B1 B2 B3 B4 B5 B6 HX2 HR2 
  obtain ⟨⟨B0, B1, B2, B3, B4, B5, B6⟩, _⟩ := HX3.out

  by_cases he0 : e0 = 0
  · subst he0
    obtain ⟨_, _, n0, n1', _⟩ := AddM_ok HP.out
    obtain ⟨back, x1, x2, x3, x4, x5⟩ := undone HGD.out (m := m) (by omega) (by omega) (by omega) HP.out
    have KS1 := KS.out u n
    have KM1 := KM.out t back
    have KA2 := KA.out u m
    have KA3 := KA.out t (n + m)
    rw [x1] at KS1
    rw [x2] at KM1
    obtain ⟨⟨v1, i1⟩, hv1⟩ : ∃ p, AddM vb s u m = p := ⟨_, rfl⟩
    obtain ⟨⟨v2, i2⟩, hv2⟩ : ∃ p, AddM vb s t (n + m) = p := ⟨_, rfl⟩
    rw [hv1] at KA2 x4 x5
    rw [hv2] at KA3 x4 x5
    simp only at x4 x5
    subst x4
    have X5 := Lib.hid x5
    have KS1 := Lib.hid KS1
    have KM1 := Lib.hid KM1
    have KA2 := Lib.hid KA2
    have KA3 := Lib.hid KA3
    have g4 : decide (back < t) = false := by simp; omega
    have s1 : IntKind.i64.wrap (n + m) = n + m := by rw [IntKind.wrap_i64]; omega
    clear x1 x2 x5 hv1 hv2 KA KS KM KH
    by_cases hmz : m = 0
    · have g5 : (m == 0) = true := by simpa using hmz
      clear hmz
      go_wp2_with fail
      refine (KS1.out _ HR3.out).mono ?_
      rintro e' w4 ⟨rfl, hb4⟩
      have HX4 := Lib.hid (HX3.out.below hb4)
      have HR4 := Lib.hid (keepSt hb4 HR3.out)
      have hB4 := keepBelow hB3 hb4
      clear hb4 B0 B1 B2 B3 B4 B5 B6 HX3 HR3 
      obtain ⟨⟨B0, B1, B2, B3, B4, B5, B6⟩, _⟩ := HX4.out
      go_wp2_with fail
      refine (KM1.out _ HR4.out).mono ?_
      rintro e' w5 ⟨rfl, hb5⟩
      have HX5 := Lib.hid (HX4.out.below hb5)
      have HR5 := Lib.hid (keepSt hb5 HR4.out)
      have hB5 := keepBelow hB4 hb5
      clear hb5 B0 B1 B2 B3 B4 B5 B6 HX4 HR4 
      obtain ⟨⟨B0, B1, B2, B3, B4, B5, B6⟩, _⟩ := HX5.out
      go_wp2_with fail
      refine (KA2.out _ HR5.out).mono ?_
      rintro e' w6 ⟨rfl, hb6⟩
      have HX6 := Lib.hid (HX5.out.below hb6)
      have HR6 := Lib.hid (keepSt hb6 HR5.out)
      have hB6 := keepBelow hB5 hb6
      clear hb6 B0 B1 B2 B3 B4 B5 B6 HX5 HR5 
      obtain ⟨⟨B0, B1, B2, B3, B4, B5, B6⟩, _⟩ := HX6.out
      go_wp2_with fail
      refine (KA3.out _ HR6.out).mono ?_
      rintro e' w7 ⟨rfl, hb7⟩
      have HX7 := Lib.hid (HX6.out.below hb7)
      have HR7 := Lib.hid (keepSt hb7 HR6.out)
      have hB7 := keepBelow hB6 hb7
      clear hb7 B0 B1 B2 B3 B4 B5 B6 HX6 HR6 
      obtain ⟨⟨B0, B1, B2, B3, B4, B5, B6⟩, _⟩ := HX7.out

      go_wp2
      go_ret
      exact ⟨ret_bool (by simp), hB7⟩

    · have g5 : (m == 0) = false := by simpa using hmz
      have hvv := X5.out hmz
      subst hvv
      clear hmz
      go_wp2_with fail
      refine (KS1.out _ HR3.out).mono ?_
      rintro e' w4 ⟨rfl, hb4⟩
      have HX4 := Lib.hid (HX3.out.below hb4)
      have HR4 := Lib.hid (keepSt hb4 HR3.out)
      have hB4 := keepBelow hB3 hb4
      clear hb4 B0 B1 B2 B3 B4 B5 B6 HX3 HR3 
      obtain ⟨⟨B0, B1, B2, B3, B4, B5, B6⟩, _⟩ := HX4.out
      go_wp2_with fail
      refine (KM1.out _ HR4.out).mono ?_
      rintro e' w5 ⟨rfl, hb5⟩
      have HX5 := Lib.hid (HX4.out.below hb5)
      have HR5 := Lib.hid (keepSt hb5 HR4.out)
      have hB5 := keepBelow hB4 hb5
      clear hb5 B0 B1 B2 B3 B4 B5 B6 HX4 HR4 
      obtain ⟨⟨B0, B1, B2, B3, B4, B5, B6⟩, _⟩ := HX5.out
      go_wp2_with fail
      refine (KA2.out _ HR5.out).mono ?_
      rintro e' w6 ⟨rfl, hb6⟩
      have HX6 := Lib.hid (HX5.out.below hb6)
      have HR6 := Lib.hid (keepSt hb6 HR5.out)
      have hB6 := keepBelow hB5 hb6
      clear hb6 B0 B1 B2 B3 B4 B5 B6 HX5 HR5 
      obtain ⟨⟨B0, B1, B2, B3, B4, B5, B6⟩, _⟩ := HX6.out
      go_wp2_with fail
      refine (KA3.out _ HR6.out).mono ?_
      rintro e' w7 ⟨rfl, hb7⟩
      have HX7 := Lib.hid (HX6.out.below hb7)
      have HR7 := Lib.hid (keepSt hb7 HR6.out)
      have hB7 := keepBelow hB6 hb7
      clear hb7 B0 B1 B2 B3 B4 B5 B6 HX6 HR6 
      obtain ⟨⟨B0, B1, B2, B3, B4, B5, B6⟩, _⟩ := HX7.out

      go_wp2
      go_ret
      exact ⟨ret_bool (by simp), hB7⟩

  · have g4 : (e0 == 0) = false := by simpa using he0
    have hu : u = 0 := by
      have := AddM_err (b := vb) (s := s) (t := t) (n := n) (by rw [HP.out]; exact he0)
      rw [HP.out] at this
      exact this
    subst hu
    go_wp2
    go_ret
    exact ⟨ret_bool (by simp), hB3⟩
end Go.Proofs.Ytkfonfheakpcbaa
