import Derived.Test.YtkfonfheakpcbaaGreatWkHrs
import Derived.Test.YtkfonfheakpcbaaGreatWkRfE
/- The law WorkMeasures. -/
namespace Go.Proofs.YtkfonfheakpcbaaGreat
open Go.RowKit Wk

theorem rdI_two (w : World) (x y : Int) (T : TypeId) : RdI (w.alloc (.cells #[.int .i64 x, .int .i64 y] T)) (.slice (some ⟨w.heap.size, 0, none⟩) 2 2) [x, y] := by
  refine ⟨_, _, rfl, by simp, fun i hi => ?_⟩
  simp at hi
  rcases (by omega : i = 0 ∨ i = 1) with rfl | rfl
  · exact ⟨_, _, rfl, by simp [go_sem]⟩
  · exact ⟨_, _, rfl, by simp [go_sem]⟩

set_option maxRecDepth 100000 in
set_option maxHeartbeats 8000000 in
theorem law_WorkMeasures (s : St) (vl vr vv : Value) (a b : Int) (w : World) (h : RdSt w s vl vr vv) :
    Calls Tryz.prog 6 #[.agg #[.int .i64 s.lf.1, vl, .int .i64 s.rt.1, vr, .int .i64 s.fr, .int .i64 s.to, vv], .int .i64 a, .int .i64 b] w fun e w' => e = .returned (.bool true) ∧ Below w.heap.size w w' := by
  have HA := Lib.hid (fun W => awake_any W)
  have HLG := Lib.hid (fun W h => large_any s vl vr vv W h)
  have HVA := Lib.hid (fun W h => valid14_any s vl vr vv W h)
  have HLN := Lib.hid (fun v L W h => lline_any v L W h)
  have K1 := Lib.hid (fun W h => wmeasure_any s vl vr vv a b W h)
  have K2 := Lib.hid (fun W h => wopen_any s vl vr vv a W h)
  have K3 := Lib.hid (fun W h => wclose_any s vl vr vv a W h)
  have K4 := Lib.hid (fun W h => open26_any s vl vr vv a W h)
  have K5 := Lib.hid (fun W h => close26_any s vl vr vv a W h)
  have K6 := Lib.hid (fun (hv : VB s = true) (ha : lineB a = true) (hb : lineB b = true) W h => measure26_any s vl vr vv a b W h (okS_of_VB hv) ha hb)
  have HGD : Hid (VB s = true → GoodS s) := fun hg => (okS_of_VB hg).good
  have HME : Hid (MeaM (VB s) s a b = if faultM (VB s) a ≠ 0 then (0, faultM (VB s) a) else if lineB b = false then (0, 2) else if b < a then (-cnt s b a, 0) else (cnt s a b, 0)) := rfl
  have HMO := Lib.hid (fun (hg : GoodS s) (hb : VB s = true) (hx : lineB a = true) (hy : lineB b = true) => MeaM_ok (b := VB s) hg hb hx hy)
  obtain ⟨vb, hvb⟩ : ∃ vb, VB s = vb := ⟨_, rfl⟩
  rw [hvb] at HVA K1 K2 K3 K4 K5 K6 HGD HME HMO
  clear hvb
  generalize largeB s = lg at *
  obtain ⟨⟨m, e0⟩, hm⟩ : ∃ p, MeaM vb s a b = p := ⟨_, rfl⟩
  rw [hm] at K1 HME HMO
  clear hm
  have HR0 := Lib.hid h
  obtain ⟨a1, n1, rfl⟩ := h.1.form
  obtain ⟨a2, n2, rfl⟩ := h.2.1.form
  obtain ⟨a3, n3, rfl⟩ := h.2.2.form
  clear h
  obtain ⟨W, hWe⟩ : ∃ W, w.alloc (.cells #[.int .i64 s.lf.1, .slice a1 s.lf.2.length n1, .int .i64 s.rt.1, .slice a2 s.rt.2.length n2, .int .i64 s.fr, .int .i64 s.to, .slice a3 s.l.length n3] 26) = W := ⟨_, rfl⟩
  have hW : Below w.heap.size w W := by rw [← hWe]; exact (Below.refl _ w).alloc (Nat.le_refl _) _
  have HX : Hid (Set7 W w.heap.size (.int .i64 s.lf.1) (.slice a1 s.lf.2.length n1) (.int .i64 s.rt.1) (.slice a2 s.rt.2.length n2) (.int .i64 s.fr) (.int .i64 s.to) (.slice a3 s.l.length n3)) := by
    rw [← hWe]
    refine ⟨⟨?_, ?_, ?_, ?_, ?_, ?_, ?_⟩, ?_, ?_, ?_, ?_, ?_, ?_, ?_⟩ <;> simp [go_sem]
  have HR := Lib.hid (keepSt hW HR0.out)
  have HE := Lib.hid hWe
  clear hWe
  obtain ⟨⟨B0, B1, B2, B3, B4, B5, B6⟩, _⟩ := HX.out
  go_enter Tryz.func6, Tryz.ntmps6
  go_wp2_with fail
  rw [HE.out]
  go_wp2_with fail
  refine (HA.out _).mono ?_
  rintro e w1 ⟨rfl, hb1⟩
  have HX1 := Lib.hid (HX.out.below hb1)
  have HR1 := Lib.hid (keepSt hb1 HR.out)
  have hB1 := keepBelow hW hb1
  clear hb1 B0 B1 B2 B3 B4 B5 B6 HX HR HE HA
  obtain ⟨⟨B0, B1, B2, B3, B4, B5, B6⟩, _⟩ := HX1.out
  go_wp2_with fail
  refine (HLG.out _ HR1.out).mono ?_
  rintro e w2 ⟨rfl, hb2⟩
  have HX2 := Lib.hid (HX1.out.below hb2)
  have HR2 := Lib.hid (keepSt hb2 HR1.out)
  have hB2 := keepBelow hB1 hb2
  clear hb2 B0 B1 B2 B3 B4 B5 B6 HX1 HR1 HLG
  obtain ⟨⟨B0, B1, B2, B3, B4, B5, B6⟩, _⟩ := HX2.out
  cases lg with
  | true =>
    go_wp2
    go_ret
    exact ⟨rfl, hB2⟩
  | false =>
  go_wp2_with fail
  refine (K1.out _ HR2.out).mono ?_
  rintro e' w3 ⟨rfl, hb3⟩
  have HX3 := Lib.hid (HX2.out.below hb3)
  have HR3 := Lib.hid (keepSt hb3 HR2.out)
  have hB3 := keepBelow hB2 hb3
  clear hb3 B0 B1 B2 B3 B4 B5 B6 HX2 HR2
  obtain ⟨⟨B0, B1, B2, B3, B4, B5, B6⟩, _⟩ := HX3.out
  go_wp2_with fail
  refine (K2.out _ HR3.out).mono ?_
  rintro e' w4 ⟨⟨o, f⟩, hp1, rfl, hb4⟩
  have HX4 := Lib.hid (HX3.out.below hb4)
  have HR4 := Lib.hid (keepSt hb4 HR3.out)
  have hB4 := keepBelow hB3 hb4
  have HP1 := Lib.hid hp1
  clear hp1
  clear hb4 B0 B1 B2 B3 B4 B5 B6 HX3 HR3
  obtain ⟨⟨B0, B1, B2, B3, B4, B5, B6⟩, _⟩ := HX4.out
  go_wp2_with fail
  refine (K3.out _ HR4.out).mono ?_
  rintro e' w5 ⟨⟨c, g⟩, hq1, rfl, hb5⟩
  have HX5 := Lib.hid (HX4.out.below hb5)
  have HR5 := Lib.hid (keepSt hb5 HR4.out)
  have hB5 := keepBelow hB4 hb5
  have HQ1 := Lib.hid hq1
  clear hq1
  clear hb5 B0 B1 B2 B3 B4 B5 B6 HX4 HR4
  obtain ⟨⟨B0, B1, B2, B3, B4, B5, B6⟩, _⟩ := HX5.out
  go_wp2_with fail
  refine (K4.out _ HR5.out).mono ?_
  rintro e' w6 ⟨⟨x, i⟩, hp2, rfl, hb6⟩
  have HX6 := Lib.hid (HX5.out.below hb6)
  have HR6 := Lib.hid (keepSt hb6 HR5.out)
  have hB6 := keepBelow hB5 hb6
  have hpp := openP_uniq HP1.out hp2
  cases hpp
  clear hp2
  clear hb6 B0 B1 B2 B3 B4 B5 B6 HX5 HR5
  obtain ⟨⟨B0, B1, B2, B3, B4, B5, B6⟩, _⟩ := HX6.out
  go_wp2_with fail
  refine (K5.out _ HR6.out).mono ?_
  rintro e' w7 ⟨⟨y, j⟩, hq2, rfl, hb7⟩
  have HX7 := Lib.hid (HX6.out.below hb7)
  have HR7 := Lib.hid (keepSt hb7 HR6.out)
  have hB7 := keepBelow hB6 hb7
  have hqq := closeP_uniq HQ1.out hq2
  cases hqq
  clear hq2
  clear hb7 B0 B1 B2 B3 B4 B5 B6 HX6 HR6
  obtain ⟨⟨B0, B1, B2, B3, B4, B5, B6⟩, _⟩ := HX7.out
  have t0 : ((o : Int) == o) = true := by simp
  have t1 : ((f : Int) == f) = true := by simp
  have t2 : ((c : Int) == c) = true := by simp
  have t3 : ((g : Int) == g) = true := by simp
  have t4 : ((o : Int) != o) = false := by simp
  have t5 : ((f : Int) != f) = false := by simp
  have t6 : ((c : Int) != c) = false := by simp
  have t7 : ((g : Int) != g) = false := by simp
  clear HP1 HQ1 K1 K2 K3 K4 K5
  go_wp2_with fail
  refine (HVA.out _ HR7.out).mono ?_
  rintro e' w8 ⟨rfl, hb8⟩
  have HX8 := Lib.hid (HX7.out.below hb8)
  have HR8 := Lib.hid (keepSt hb8 HR7.out)
  have hB8 := keepBelow hB7 hb8
  clear hb8 B0 B1 B2 B3 B4 B5 B6 HX7 HR7
  obtain ⟨⟨B0, B1, B2, B3, B4, B5, B6⟩, _⟩ := HX8.out
  cases vb with
  | false =>
    have hm : (m, e0) = (0, 1) := by rw [HME.out, if_pos (by unfold faultM; simp)]; rfl
    cases hm
    clear B0 B1 B2 B3 B4 B5 B6
    go_wp2
    go_ret
    exact ⟨rfl, hB8⟩
  | true =>
  have HGS := Lib.hid (HGD.out rfl)
  go_wp2_with fail
  obtain ⟨W9, hW9⟩ : ∃ X, w8.alloc (.cells #[.int .i64 a, .int .i64 b] 3) = X := ⟨_, rfl⟩
  have hb9 : Below w8.heap.size w8 W9 := by rw [← hW9]; exact (Below.refl _ w8).alloc (Nat.le_refl _) _
  have HI := Lib.hid (rdI_two w8 a b 3)
  rw [hW9] at HI ⊢
  clear hW9
  have HX9 := Lib.hid (HX8.out.below hb9)
  have HR9 := Lib.hid (keepSt hb9 HR8.out)
  have hB9 := keepBelow hB8 hb9
  clear hb9 B0 B1 B2 B3 B4 B5 B6 HX8 HR8
  refine (HLN.out _ _ _ HI.out).mono ?_
  rintro e w10 ⟨rfl, hb10⟩
  have HX10 := Lib.hid (HX9.out.below hb10)
  have HR10 := Lib.hid (keepSt hb10 HR9.out)
  have hB10 := keepBelow hB9 hb10
  clear hb10 HX9 HR9 HI HLN
  obtain ⟨⟨B0, B1, B2, B3, B4, B5, B6⟩, _⟩ := HX10.out
  obtain ⟨la, hla⟩ : ∃ la, allB [a, b] = la := ⟨_, rfl⟩
  have HLA : Hid (la = (lineB a && lineB b)) := by unfold Hid; rw [← hla]; simp [allB]
  rw [hla]
  clear hla
  cases la with
  | false =>
    have hm : (m, e0) = (0, 2) := by
      rw [HME.out]
      unfold faultM
      cases h1 : lineB a with
      | false => simp
      | true =>
        have h2 : lineB b = false := by
          have := HLA.out
          rw [h1] at this
          simpa using this.symm
        rw [h2]
        simp
    cases hm
    clear B0 B1 B2 B3 B4 B5 B6
    go_wp2
    go_ret
    exact ⟨rfl, hB10⟩
  | true =>
  have hl : lineB a = true ∧ lineB b = true := by
    have := HLA.out
    simp at this
    exact this
  have hm := HMO.out HGS.out (by trivial) hl.1 hl.2
  cases hm
  have K := Lib.hid (K6.out (by trivial) hl.1 hl.2)
  clear hl K6 HMO HME HGD HLA
  generalize potS s b - potS s a = X at *
  have t8 : ((X : Int) == X) = true := by simp
  go_wp2_with fail
  refine (K.out _ HR10.out).mono ?_
  rintro e w11 ⟨rfl, hb11⟩
  have hB11 := keepBelow hB10 hb11
  clear B0 B1 B2 B3 B4 B5 B6
  go_wp2
  go_ret
  exact ⟨rfl, hB11⟩
end Go.Proofs.YtkfonfheakpcbaaGreat
