import Derived.Test.YtkfonfheakpcbaaGreatWkHrs
import Derived.Test.YtkfonfheakpcbaaGreatWkRfC
/- The law WorkAddsUp. -/
namespace Go.Proofs.YtkfonfheakpcbaaGreat
open Go.RowKit Wk

theorem rdI_three (w : World) (x y z : Int) (T : TypeId) : RdI (w.alloc (.cells #[.int .i64 x, .int .i64 y, .int .i64 z] T)) (.slice (some ⟨w.heap.size, 0, none⟩) 3 3) [x, y, z] := by
  refine ⟨_, _, rfl, by simp, fun i hi => ?_⟩
  simp at hi
  rcases (by omega : i = 0 ∨ i = 1 ∨ i = 2) with rfl | rfl | rfl
  · exact ⟨_, _, rfl, by simp [go_sem]⟩
  · exact ⟨_, _, rfl, by simp [go_sem]⟩
  · exact ⟨_, _, rfl, by simp [go_sem]⟩
theorem pot_gap {s : St} (h : GoodS s) {x y : Int} (hx : lineB x = true) (hy : lineB y = true) : -8796093022208 ≤ potS s y - potS s x ∧ potS s y - potS s x ≤ 8796093022208 := by
  have h1 := (lineB_iff x).1 hx
  have h2 := (lineB_iff y).1 hy
  rcases Int.le_total x y with h3 | h3
  · have := (potS_steps h).mono x y h3; omega
  · have := (potS_steps h).mono y x h3; omega

set_option maxRecDepth 100000 in
set_option maxHeartbeats 8000000 in
theorem law_WorkAddsUp (s : St) (vl vr vv : Value) (a b c : Int) (w : World) (h : RdSt w s vl vr vv) :
    Calls Tryz.prog 4 #[.agg #[.int .i64 s.lf.1, vl, .int .i64 s.rt.1, vr, .int .i64 s.fr, .int .i64 s.to, vv], .int .i64 a, .int .i64 b, .int .i64 c] w fun e w' => e = .returned (.bool true) ∧ Below w.heap.size w w' := by
  have HA := Lib.hid (fun W => awake_any W)
  have HLG := Lib.hid (fun W h => large_any s vl vr vv W h)
  have HVA := Lib.hid (fun W h => valid14_any s vl vr vv W h)
  have HLN := Lib.hid (fun v L W h => lline_any v L W h)
  have KM : Hid (∀ (x y : Int), ∀ W, RdSt W s vl vr vv → Calls Tryz.prog 15 #[.agg #[.int .i64 s.lf.1, vl, .int .i64 s.rt.1, vr, .int .i64 s.fr, .int .i64 s.to, vv], .int .i64 x, .int .i64 y] W fun e w' => e = .returned (.tuple #[.int .i64 (MeaM (VB s) s x y).1, .int .i64 (MeaM (VB s) s x y).2]) ∧ Below W.heap.size W w') := fun x y W h => wmeasure_any s vl vr vv x y W h
  have KH : Hid (∀ (x : Int), ∀ W, RdSt W s vl vr vv → -1152921504606846976 ≤ x → x ≤ 1152921504606846976 → Calls Tryz.prog 16 #[.agg #[.int .i64 s.lf.1, vl, .int .i64 s.rt.1, vr, .int .i64 s.fr, .int .i64 s.to, vv], .int .i64 x] W fun e w' => e = .returned (.bool (VB s && hasS s x)) ∧ Below W.heap.size W w') := fun x W h h1 h2 => thas_any s vl vr vv x W h h1 h2
  have HGD : Hid (VB s = true → GoodS s) := fun hg => (okS_of_VB hg).good
  generalize VB s = vb at *
  generalize largeB s = lg at *
  have HR0 := Lib.hid h
  obtain ⟨a1, n1, rfl⟩ := h.1.form
  obtain ⟨a2, n2, rfl⟩ := h.2.1.form
  obtain ⟨a3, n3, rfl⟩ := h.2.2.form
  clear h
  obtain ⟨W, hWe⟩ : ∃ W, w.alloc (.cells #[.int .i64 s.lf.1, .slice a1 s.lf.2.length n1, .int .i64 s.rt.1, .slice a2 s.rt.2.length n2, .int .i64 s.fr, .int .i64 s.to, .slice a3 s.l.length n3] 26) = W := ⟨_, rfl⟩
  have hW : Below w.heap.size w W := by rw [← hWe]; exact (Below.refl _ w).alloc (Nat.le_refl _) _
  have HX : Hid (Set7 W w.heap.size (.int .i64 s.lf.1) (.slice a1 s.lf.2.length n1) (.int .i64 s.rt.1) (.slice a2 s.rt.2.length n2) (.int .i64 s.fr) (.int .i64 s.to) (.slice a3 s.l.length n3)) := by
    rw [← hWe]
    refine ⟨⟨?_, ?_, ?_, ?_, ?_, ?_, ?_⟩, ?_, ?_, ?_, ?_, ?_, ?_, ?_⟩ <;> simp [go_sem]
  have HR := Lib.hid (keepSt hW HR0.out)
  have HE := Lib.hid hWe
  clear hWe HR0
  obtain ⟨⟨B0, B1, B2, B3, B4, B5, B6⟩, _⟩ := HX.out
  go_enter Tryz.func4, Tryz.ntmps4
  go_wp2_with fail
  rw [HE.out]
  go_wp2_with fail
  refine (HA.out _).mono ?_
  rintro e w1 ⟨rfl, hb1⟩
  have HX1 := Lib.hid (HX.out.below hb1)
  have HR1 := Lib.hid (keepSt hb1 HR.out)
  have hB1 := keepBelow hW hb1
  clear hb1 B0 B1 B2 B3 B4 B5 B6 HX HR HE HA
  obtain ⟨⟨B0, B1, B2, B3, B4, B5, B6⟩, _⟩ := HX1.out
  go_wp2_with fail
  refine (HLG.out _ HR1.out).mono ?_
  rintro e w2 ⟨rfl, hb2⟩
  have HX2 := Lib.hid (HX1.out.below hb2)
  have HR2 := Lib.hid (keepSt hb2 HR1.out)
  have hB2 := keepBelow hB1 hb2
  clear hb2 B0 B1 B2 B3 B4 B5 B6 HX1 HR1 HLG
  obtain ⟨⟨B0, B1, B2, B3, B4, B5, B6⟩, _⟩ := HX2.out
  cases lg with
  | true =>
    go_wp2
    go_ret
    exact ⟨rfl, hB2⟩
  | false =>
  go_wp2_with fail
  refine (HVA.out _ HR2.out).mono ?_
  rintro e w3 ⟨rfl, hb3⟩
  have HX3 := Lib.hid (HX2.out.below hb3)
  have HR3 := Lib.hid (keepSt hb3 HR2.out)
  have hB3 := keepBelow hB2 hb3
  clear hb3 B0 B1 B2 B3 B4 B5 B6 HX2 HR2 HVA
  obtain ⟨⟨B0, B1, B2, B3, B4, B5, B6⟩, _⟩ := HX3.out
  cases vb with
  | false =>
    go_wp2
    go_ret
    exact ⟨rfl, hB3⟩
  | true =>
  have HGS := Lib.hid (HGD.out rfl)
  go_wp2_with fail
  obtain ⟨W4, hW4⟩ : ∃ X, w3.alloc (.cells #[.int .i64 a, .int .i64 b, .int .i64 c] 3) = X := ⟨_, rfl⟩
  have hb4 : Below w3.heap.size w3 W4 := by rw [← hW4]; exact (Below.refl _ w3).alloc (Nat.le_refl _) _
  have HI := Lib.hid (rdI_three w3 a b c 3)
  rw [hW4] at HI ⊢
  clear hW4
  have HX4 := Lib.hid (HX3.out.below hb4)
  have HR4 := Lib.hid (keepSt hb4 HR3.out)
  have hB4 := keepBelow hB3 hb4
  clear hb4 B0 B1 B2 B3 B4 B5 B6 HX3 HR3
  obtain ⟨⟨B0, B1, B2, B3, B4, B5, B6⟩, _⟩ := HX4.out
  refine (HLN.out _ _ _ HI.out).mono ?_
  rintro e w5 ⟨rfl, hb5⟩
  have HX5 := Lib.hid (HX4.out.below hb5)
  have HR5 := Lib.hid (keepSt hb5 HR4.out)
  have hB5 := keepBelow hB4 hb5
  clear hb5 B0 B1 B2 B3 B4 B5 B6 HX4 HR4 HI HLN
  obtain ⟨⟨B0, B1, B2, B3, B4, B5, B6⟩, _⟩ := HX5.out
  obtain ⟨la, hla⟩ : ∃ la, allB [a, b, c] = la := ⟨_, rfl⟩
  have HLA : Hid (la = (lineB a && (lineB b && lineB c))) := by unfold Hid; rw [← hla]; simp [allB]
  rw [hla]
  clear hla
  cases la with
  | false =>
    go_wp2
    go_ret
    exact ⟨rfl, hB5⟩
  | true =>
  have hlines : lineB a = true ∧ lineB b = true ∧ lineB c = true := by
    have := HLA.out
    simp at this
    exact this
  by_cases hmx : a = 4398046511104
  · have t1 : (a == 4398046511104) = true := by simpa using hmx
    clear hmx hlines
    go_wp2
    go_ret
    exact ⟨rfl, hB5⟩
  have t1 : (a == 4398046511104) = false := by simpa using hmx
  have hab := (lineB_iff a).1 hlines.1
  have hl1 : lineB (a + 1) = true := (lineB_iff _).2 (by omega)
  have K1 := KM.out a b
  have K2 := KM.out b c
  have K3 := KM.out a c
  have K4 := KM.out b a
  have K5 := KM.out a (a + 1)
  have K6 := KH.out a
  rw [MeaM_ok HGS.out rfl hlines.1 hlines.2.1] at K1
  rw [MeaM_ok HGS.out rfl hlines.2.1 hlines.2.2] at K2
  rw [MeaM_ok HGS.out rfl hlines.1 hlines.2.2] at K3
  rw [MeaM_ok HGS.out rfl hlines.2.1 hlines.1] at K4
  rw [MeaM_ok HGS.out rfl hlines.1 hl1] at K5
  have g1 := pot_gap HGS.out hlines.1 hlines.2.1
  have g2 := pot_gap HGS.out hlines.2.1 hlines.2.2
  have hst := potS_steps HGS.out a
  obtain ⟨X, hX⟩ : ∃ X, potS s b - potS s a = X := ⟨_, rfl⟩
  obtain ⟨Y, hY⟩ : ∃ Y, potS s c - potS s b = Y := ⟨_, rfl⟩
  rw [show potS s c - potS s a = X + Y by omega] at K3
  rw [show potS s a - potS s b = -X by omega] at K4
  rw [show potS s (a + 1) - potS s a = b2i (hasS s a) by omega] at K5
  rw [hX] at K1 g1
  rw [hY] at K2 g2
  rw [Bool.true_and] at K6
  simp only at K1 K2 K3 K4 K5
  generalize hasS s a = hb at *
  have K1 := Lib.hid K1
  have K2 := Lib.hid K2
  have K3 := Lib.hid K3
  have K4 := Lib.hid K4
  have K5 := Lib.hid K5
  have K6 := Lib.hid (fun W h => K6 W h (by omega) (by omega))
  clear hX hY hst hlines hl1 hmx KM KH HGD HLA
  have s1 : IntKind.i64.wrap (a + 1) = a + 1 := by rw [IntKind.wrap_i64]; omega
  have s2 : IntKind.i64.wrap (X + Y) = X + Y := by rw [IntKind.wrap_i64]; omega
  have s3 : IntKind.i64.wrap (-X) = -X := by rw [IntKind.wrap_i64]; omega
  go_wp2_with fail
  refine (K1.out _ HR5.out).mono ?_
  rintro e w6 ⟨rfl, hb6⟩
  have HX6 := Lib.hid (HX5.out.below hb6)
  have HR6 := Lib.hid (keepSt hb6 HR5.out)
  have hB6 := keepBelow hB5 hb6
  clear hb6 B0 B1 B2 B3 B4 B5 B6 HX5 HR5
  obtain ⟨⟨B0, B1, B2, B3, B4, B5, B6⟩, _⟩ := HX6.out
  go_wp2_with fail
  refine (K2.out _ HR6.out).mono ?_
  rintro e w7 ⟨rfl, hb7⟩
  have HX7 := Lib.hid (HX6.out.below hb7)
  have HR7 := Lib.hid (keepSt hb7 HR6.out)
  have hB7 := keepBelow hB6 hb7
  clear hb7 B0 B1 B2 B3 B4 B5 B6 HX6 HR6
  obtain ⟨⟨B0, B1, B2, B3, B4, B5, B6⟩, _⟩ := HX7.out
  go_wp2_with fail
  refine (K3.out _ HR7.out).mono ?_
  rintro e w8 ⟨rfl, hb8⟩
  have HX8 := Lib.hid (HX7.out.below hb8)
  have HR8 := Lib.hid (keepSt hb8 HR7.out)
  have hB8 := keepBelow hB7 hb8
  clear hb8 B0 B1 B2 B3 B4 B5 B6 HX7 HR7
  obtain ⟨⟨B0, B1, B2, B3, B4, B5, B6⟩, _⟩ := HX8.out
  go_wp2_with fail
  refine (K4.out _ HR8.out).mono ?_
  rintro e w9 ⟨rfl, hb9⟩
  have HX9 := Lib.hid (HX8.out.below hb9)
  have HR9 := Lib.hid (keepSt hb9 HR8.out)
  have hB9 := keepBelow hB8 hb9
  clear hb9 B0 B1 B2 B3 B4 B5 B6 HX8 HR8
  obtain ⟨⟨B0, B1, B2, B3, B4, B5, B6⟩, _⟩ := HX9.out
  go_wp2_with fail
  refine (K5.out _ HR9.out).mono ?_
  rintro e w10 ⟨rfl, hb10⟩
  have HX10 := Lib.hid (HX9.out.below hb10)
  have HR10 := Lib.hid (keepSt hb10 HR9.out)
  have hB10 := keepBelow hB9 hb10
  clear hb10 B0 B1 B2 B3 B4 B5 B6 HX9 HR9
  obtain ⟨⟨B0, B1, B2, B3, B4, B5, B6⟩, _⟩ := HX10.out
  have t2 : ((X + Y) == (X + Y)) = true := by simp
  have t3 : ((-X) == (-X)) = true := by simp
  cases hb with
  | true =>
    rw [b2i_true]
    go_wp2_with fail
    refine (K6.out _ HR10.out).mono ?_
    rintro e w11 ⟨rfl, hb11⟩
    have hB11 := keepBelow hB10 hb11
    clear B0 B1 B2 B3 B4 B5 B6
    go_wp2
    go_ret
    exact ⟨rfl, hB11⟩
  | false =>
    rw [b2i_false]
    go_wp2_with fail
    refine (K6.out _ HR10.out).mono ?_
    rintro e w11 ⟨rfl, hb11⟩
    have hB11 := keepBelow hB10 hb11
    clear B0 B1 B2 B3 B4 B5 B6
    go_wp2
    go_ret
    exact ⟨rfl, hB11⟩
end Go.Proofs.YtkfonfheakpcbaaGreat
