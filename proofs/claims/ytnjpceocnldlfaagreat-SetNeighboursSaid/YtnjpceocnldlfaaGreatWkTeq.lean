import Derived.Test.YtnjpceocnldlfaaGreatWkBf
/- timeset.Equal; the law package's same. -/
namespace Go.Proofs.YtnjpceocnldlfaaGreat
open Go.RowKit Wk

def eqTB (a b : St) : Bool := (((((VB a && VB b) && (a.fr == b.fr)) && (a.to == b.to)) && peB a.lf.1 a.lf.2 b.lf.1 b.lf.2) && peB a.rt.1 a.rt.2 b.rt.1 b.rt.2) && decide (a.l = b.l)

set_option maxRecDepth 100000 in
set_option maxHeartbeats 4000000 in
theorem tequal_any (a b : St) (al ar av bl br bv : Value) (w : World) (ha : RdSt w a al ar av) (hb : RdSt w b bl br bv) :
    Calls Tryz.prog 23 #[.agg #[.int .i64 a.lf.1, al, .int .i64 a.rt.1, ar, .int .i64 a.fr, .int .i64 a.to, av], .agg #[.int .i64 b.lf.1, bl, .int .i64 b.rt.1, br, .int .i64 b.fr, .int .i64 b.to, bv]] w fun e w' => e = .returned (.bool (eqTB a b)) ∧ Below w.heap.size w w' := by
  have HVA := Lib.hid (fun W h => tvalid_any a al ar av W h)
  have HVB := Lib.hid (fun W h => tvalid_any b bl br bv W h)
  have HPL := Lib.hid (fun W h h' => pequal_any a.lf.1 b.lf.1 al bl a.lf.2 b.lf.2 W h h')
  have HPR := Lib.hid (fun W h h' => pequal_any a.rt.1 b.rt.1 ar br a.rt.2 b.rt.2 W h h')
  have HSL := Lib.hid (fun W h h' => seq_any av bv a.l b.l W h h')
  have HRA := Lib.hid ha
  have HRB := Lib.hid hb
  obtain ⟨a1, n1, e1⟩ := ha.1.form
  obtain ⟨a2, n2, e2⟩ := ha.2.1.form
  obtain ⟨a3, n3, e3⟩ := ha.2.2.form
  obtain ⟨b1, m1, e4⟩ := hb.1.form
  obtain ⟨b2, m2, e5⟩ := hb.2.1.form
  obtain ⟨b3, m3, e6⟩ := hb.2.2.form
  subst e1 e2 e3 e4 e5 e6
  clear ha hb
  obtain ⟨W, hWe⟩ : ∃ W, (w.alloc (.cells #[.int .i64 a.lf.1, .slice a1 a.lf.2.length n1, .int .i64 a.rt.1, .slice a2 a.rt.2.length n2, .int .i64 a.fr, .int .i64 a.to, .slice a3 a.l.length n3] 26)).alloc (.cells #[.int .i64 b.lf.1, .slice b1 b.lf.2.length m1, .int .i64 b.rt.1, .slice b2 b.rt.2.length m2, .int .i64 b.fr, .int .i64 b.to, .slice b3 b.l.length m3] 26) = W := ⟨_, rfl⟩
  have hW : Below w.heap.size w W := by rw [← hWe]; exact ((Below.refl _ w).alloc (Nat.le_refl _) _).alloc (by simp) _
  have HX : Hid (Set7 W w.heap.size (.int .i64 a.lf.1) (.slice a1 a.lf.2.length n1) (.int .i64 a.rt.1) (.slice a2 a.rt.2.length n2) (.int .i64 a.fr) (.int .i64 a.to) (.slice a3 a.l.length n3) ∧ Set7 W (w.heap.size + 1) (.int .i64 b.lf.1) (.slice b1 b.lf.2.length m1) (.int .i64 b.rt.1) (.slice b2 b.rt.2.length m2) (.int .i64 b.fr) (.int .i64 b.to) (.slice b3 b.l.length m3) ∧ RdSt W a (.slice a1 a.lf.2.length n1) (.slice a2 a.rt.2.length n2) (.slice a3 a.l.length n3) ∧ RdSt W b (.slice b1 b.lf.2.length m1) (.slice b2 b.rt.2.length m2) (.slice b3 b.l.length m3) ∧ Below w.heap.size w W) := by
    refine ⟨?_, ?_, keepSt hW HRA.out, keepSt hW HRB.out, hW⟩
    · rw [← hWe]
      refine ⟨⟨?_, ?_, ?_, ?_, ?_, ?_, ?_⟩, ?_, ?_, ?_, ?_, ?_, ?_, ?_⟩ <;> simp [go_sem]
    · rw [← hWe]
      refine ⟨⟨?_, ?_, ?_, ?_, ?_, ?_, ?_⟩, ?_, ?_, ?_, ?_, ?_, ?_, ?_⟩ <;> simp [go_sem]
  have HE := Lib.hid hWe
  clear hWe hW

  have HEQ : Hid (eqTB a b = ((((((VB a && VB b) && (a.fr == b.fr)) && (a.to == b.to)) && peB a.lf.1 a.lf.2 b.lf.1 b.lf.2) && peB a.rt.1 a.rt.2 b.rt.1 b.rt.2) && decide (a.l = b.l))) := rfl
  generalize eqTB a b = r at *
  obtain ⟨g1, h1⟩ : ∃ g, VB a = g := ⟨_, rfl⟩
  obtain ⟨g2, h2⟩ : ∃ g, VB b = g := ⟨_, rfl⟩
  obtain ⟨g5, h5⟩ : ∃ g, peB a.lf.1 a.lf.2 b.lf.1 b.lf.2 = g := ⟨_, rfl⟩
  obtain ⟨g6, h6⟩ : ∃ g, peB a.rt.1 a.rt.2 b.rt.1 b.rt.2 = g := ⟨_, rfl⟩
  obtain ⟨g7, h7⟩ : ∃ g, decide (a.l = b.l) = g := ⟨_, rfl⟩
  rw [h1] at HVA
  rw [h2] at HVB
  rw [h5] at HPL
  rw [h6] at HPR
  rw [h7] at HSL
  rw [h1, h2, h5, h6, h7] at HEQ
  clear h1 h2 h5 h6 h7
  obtain ⟨⟨⟨A0, A1, A2, A3, A4, A5, A6⟩, _⟩, ⟨⟨B0, B1, B2, B3, B4, B5, B6⟩, _⟩, _, _, hbe⟩ := HX.out
  go_enter Tryz.func23, Tryz.ntmps23
  go_wp2_with fail
  rw [HE.out]
  go_wp2_with fail
  refine (HVA.out _ HX.out.2.2.1).mono ?_
  rintro e w1 ⟨rfl, hb⟩
  have HX1 := Lib.hid (And.intro (HX.out.1.below hb) (And.intro (HX.out.2.1.below hb) (And.intro (keepSt hb HX.out.2.2.1) (And.intro (keepSt hb HX.out.2.2.2.1) (keepBelow HX.out.2.2.2.2 hb)))))
  clear hb
  clear A0 A1 A2 A3 A4 A5 A6 B0 B1 B2 B3 B4 B5 B6 hbe
  obtain ⟨⟨⟨A0, A1, A2, A3, A4, A5, A6⟩, _⟩, ⟨⟨B0, B1, B2, B3, B4, B5, B6⟩, _⟩, _, _, hbe⟩ := HX1.out
  cases g1 with
  | false =>
    go_wp2
    go_ret
    exact ⟨ret_bool (by rw [HEQ.out]; simp), hbe⟩
  | true =>
  go_wp2_with fail
  refine (HVB.out _ HX1.out.2.2.2.1).mono ?_
  rintro e w2 ⟨rfl, hb⟩
  have HX2 := Lib.hid (And.intro (HX1.out.1.below hb) (And.intro (HX1.out.2.1.below hb) (And.intro (keepSt hb HX1.out.2.2.1) (And.intro (keepSt hb HX1.out.2.2.2.1) (keepBelow HX1.out.2.2.2.2 hb)))))
  clear hb
  clear A0 A1 A2 A3 A4 A5 A6 B0 B1 B2 B3 B4 B5 B6 hbe
  obtain ⟨⟨⟨A0, A1, A2, A3, A4, A5, A6⟩, _⟩, ⟨⟨B0, B1, B2, B3, B4, B5, B6⟩, _⟩, _, _, hbe⟩ := HX2.out
  cases g2 with
  | false =>
    go_wp2
    go_ret
    exact ⟨ret_bool (by rw [HEQ.out]; simp), hbe⟩
  | true =>
  cases g3 : (a.fr == b.fr) with
  | false =>
    rw [g3] at HEQ
    go_wp2
    go_ret
    exact ⟨ret_bool (by rw [HEQ.out]; simp), hbe⟩
  | true =>
  rw [g3] at HEQ
  cases g4 : (a.to == b.to) with
  | false =>
    rw [g4] at HEQ
    go_wp2
    go_ret
    exact ⟨ret_bool (by rw [HEQ.out]; simp), hbe⟩
  | true =>
  rw [g4] at HEQ
  go_wp2_with fail
  refine (HPL.out _ HX2.out.2.2.1.1 HX2.out.2.2.2.1.1).mono ?_
  rintro e w3 ⟨rfl, hb⟩
  have HX3 := Lib.hid (And.intro (HX2.out.1.below hb) (And.intro (HX2.out.2.1.below hb) (And.intro (keepSt hb HX2.out.2.2.1) (And.intro (keepSt hb HX2.out.2.2.2.1) (keepBelow HX2.out.2.2.2.2 hb)))))
  clear hb
  clear A0 A1 A2 A3 A4 A5 A6 B0 B1 B2 B3 B4 B5 B6 hbe
  obtain ⟨⟨⟨A0, A1, A2, A3, A4, A5, A6⟩, _⟩, ⟨⟨B0, B1, B2, B3, B4, B5, B6⟩, _⟩, _, _, hbe⟩ := HX3.out
  cases g5 with
  | false =>
    go_wp2
    go_ret
    exact ⟨ret_bool (by rw [HEQ.out]; simp), hbe⟩
  | true =>
  go_wp2_with fail
  refine (HPR.out _ HX3.out.2.2.1.2.1 HX3.out.2.2.2.1.2.1).mono ?_
  rintro e w4 ⟨rfl, hb⟩
  have HX4 := Lib.hid (And.intro (HX3.out.1.below hb) (And.intro (HX3.out.2.1.below hb) (And.intro (keepSt hb HX3.out.2.2.1) (And.intro (keepSt hb HX3.out.2.2.2.1) (keepBelow HX3.out.2.2.2.2 hb)))))
  clear hb
  clear A0 A1 A2 A3 A4 A5 A6 B0 B1 B2 B3 B4 B5 B6 hbe
  obtain ⟨⟨⟨A0, A1, A2, A3, A4, A5, A6⟩, _⟩, ⟨⟨B0, B1, B2, B3, B4, B5, B6⟩, _⟩, _, _, hbe⟩ := HX4.out
  cases g6 with
  | false =>
    go_wp2
    go_ret
    exact ⟨ret_bool (by rw [HEQ.out]; simp), hbe⟩
  | true =>
  go_wp2_with fail
  refine (HSL.out _ HX4.out.2.2.1.2.2 HX4.out.2.2.2.1.2.2).mono ?_
  rintro e w5 ⟨rfl, hb⟩
  have HX5 := Lib.hid (And.intro (HX4.out.1.below hb) (And.intro (HX4.out.2.1.below hb) (And.intro (keepSt hb HX4.out.2.2.1) (And.intro (keepSt hb HX4.out.2.2.2.1) (keepBelow HX4.out.2.2.2.2 hb)))))
  clear hb
  clear A0 A1 A2 A3 A4 A5 A6 B0 B1 B2 B3 B4 B5 B6 hbe
  obtain ⟨⟨⟨A0, A1, A2, A3, A4, A5, A6⟩, _⟩, ⟨⟨B0, B1, B2, B3, B4, B5, B6⟩, _⟩, _, _, hbe⟩ := HX5.out
  go_wp2
  go_ret
  exact ⟨ret_bool (by rw [HEQ.out]; simp), hbe⟩

set_option maxRecDepth 100000 in
set_option maxHeartbeats 4000000 in
theorem same_any (a : St) (E : Int) (al ar av bl br bv : Value) (w : World) (ha : RdSt w a al ar av) (hb : RdSt w a bl br bv) :
    Calls Tryz.prog 19 #[.agg #[.int .i64 a.lf.1, al, .int .i64 a.rt.1, ar, .int .i64 a.fr, .int .i64 a.to, av], .int .i64 E, .agg #[.int .i64 a.lf.1, bl, .int .i64 a.rt.1, br, .int .i64 a.fr, .int .i64 a.to, bv], .int .i64 E] w fun e w' => e = .returned (.bool true) ∧ Below w.heap.size w w' := by
  have HS1 : Hid (∀ W, RdS W av a.l → RdS W bv a.l → Calls Tryz.prog 28 #[av, bv] W fun e w' => e = .returned (.bool true) ∧ Below W.heap.size W w') := fun W h h' => by have := seq_any av bv a.l a.l W h h'; rwa [decide_eq_true rfl] at this
  have HS2 : Hid (∀ W, RdS W al a.lf.2 → RdS W bl a.lf.2 → Calls Tryz.prog 28 #[al, bl] W fun e w' => e = .returned (.bool true) ∧ Below W.heap.size W w') := fun W h h' => by have := seq_any al bl a.lf.2 a.lf.2 W h h'; rwa [decide_eq_true rfl] at this
  have HS3 : Hid (∀ W, RdS W ar a.rt.2 → RdS W br a.rt.2 → Calls Tryz.prog 28 #[ar, br] W fun e w' => e = .returned (.bool true) ∧ Below W.heap.size W w') := fun W h h' => by have := seq_any ar br a.rt.2 a.rt.2 W h h'; rwa [decide_eq_true rfl] at this
  have HRA := Lib.hid ha
  have HRB := Lib.hid hb
  obtain ⟨a1, n1, e1⟩ := ha.1.form
  obtain ⟨a2, n2, e2⟩ := ha.2.1.form
  obtain ⟨a3, n3, e3⟩ := ha.2.2.form
  obtain ⟨b1, m1, e4⟩ := hb.1.form
  obtain ⟨b2, m2, e5⟩ := hb.2.1.form
  obtain ⟨b3, m3, e6⟩ := hb.2.2.form
  subst e1 e2 e3 e4 e5 e6
  clear ha hb
  obtain ⟨W, hWe⟩ : ∃ W, (w.alloc (.cells #[.int .i64 a.lf.1, .slice a1 a.lf.2.length n1, .int .i64 a.rt.1, .slice a2 a.rt.2.length n2, .int .i64 a.fr, .int .i64 a.to, .slice a3 a.l.length n3] 26)).alloc (.cells #[.int .i64 a.lf.1, .slice b1 a.lf.2.length m1, .int .i64 a.rt.1, .slice b2 a.rt.2.length m2, .int .i64 a.fr, .int .i64 a.to, .slice b3 a.l.length m3] 26) = W := ⟨_, rfl⟩
  have hW : Below w.heap.size w W := by rw [← hWe]; exact ((Below.refl _ w).alloc (Nat.le_refl _) _).alloc (by simp) _
  have HX : Hid (Set7 W w.heap.size (.int .i64 a.lf.1) (.slice a1 a.lf.2.length n1) (.int .i64 a.rt.1) (.slice a2 a.rt.2.length n2) (.int .i64 a.fr) (.int .i64 a.to) (.slice a3 a.l.length n3) ∧ Set7 W (w.heap.size + 1) (.int .i64 a.lf.1) (.slice b1 a.lf.2.length m1) (.int .i64 a.rt.1) (.slice b2 a.rt.2.length m2) (.int .i64 a.fr) (.int .i64 a.to) (.slice b3 a.l.length m3) ∧ RdSt W a (.slice a1 a.lf.2.length n1) (.slice a2 a.rt.2.length n2) (.slice a3 a.l.length n3) ∧ RdSt W a (.slice b1 a.lf.2.length m1) (.slice b2 a.rt.2.length m2) (.slice b3 a.l.length m3) ∧ Below w.heap.size w W) := by
    refine ⟨?_, ?_, keepSt hW HRA.out, keepSt hW HRB.out, hW⟩
    · rw [← hWe]
      refine ⟨⟨?_, ?_, ?_, ?_, ?_, ?_, ?_⟩, ?_, ?_, ?_, ?_, ?_, ?_, ?_⟩ <;> simp [go_sem]
    · rw [← hWe]
      refine ⟨⟨?_, ?_, ?_, ?_, ?_, ?_, ?_⟩, ?_, ?_, ?_, ?_, ?_, ?_, ?_⟩ <;> simp [go_sem]
  have HE := Lib.hid hWe
  clear hWe hW

  obtain ⟨⟨⟨A0, A1, A2, A3, A4, A5, A6⟩, _⟩, ⟨⟨B0, B1, B2, B3, B4, B5, B6⟩, _⟩, _, _, hbe⟩ := HX.out
  have g0 : (E == E) = true := by simp
  have g0' : (E != E) = false := by simp
  have g1 : (a.fr == a.fr) = true := by simp
  have g2 : (a.to == a.to) = true := by simp
  have g3 : (a.lf.1 == a.lf.1) = true := by simp
  have g4 : (a.rt.1 == a.rt.1) = true := by simp
  go_enter Tryz.func19, Tryz.ntmps19
  go_wp2_with fail
  rw [HE.out]
  go_wp2_with fail
  refine (HS1.out _ HX.out.2.2.1.2.2 HX.out.2.2.2.1.2.2).mono ?_
  rintro e w1 ⟨rfl, hb⟩
  have HX1 := Lib.hid (And.intro (HX.out.1.below hb) (And.intro (HX.out.2.1.below hb) (And.intro (keepSt hb HX.out.2.2.1) (And.intro (keepSt hb HX.out.2.2.2.1) (keepBelow HX.out.2.2.2.2 hb)))))
  clear hb
  clear A0 A1 A2 A3 A4 A5 A6 B0 B1 B2 B3 B4 B5 B6 hbe
  obtain ⟨⟨⟨A0, A1, A2, A3, A4, A5, A6⟩, _⟩, ⟨⟨B0, B1, B2, B3, B4, B5, B6⟩, _⟩, _, _, hbe⟩ := HX1.out
  go_wp2_with fail
  refine (HS2.out _ HX1.out.2.2.1.1 HX1.out.2.2.2.1.1).mono ?_
  rintro e w2 ⟨rfl, hb⟩
  have HX2 := Lib.hid (And.intro (HX1.out.1.below hb) (And.intro (HX1.out.2.1.below hb) (And.intro (keepSt hb HX1.out.2.2.1) (And.intro (keepSt hb HX1.out.2.2.2.1) (keepBelow HX1.out.2.2.2.2 hb)))))
  clear hb
  clear A0 A1 A2 A3 A4 A5 A6 B0 B1 B2 B3 B4 B5 B6 hbe
  obtain ⟨⟨⟨A0, A1, A2, A3, A4, A5, A6⟩, _⟩, ⟨⟨B0, B1, B2, B3, B4, B5, B6⟩, _⟩, _, _, hbe⟩ := HX2.out
  go_wp2_with fail
  refine (HS3.out _ HX2.out.2.2.1.2.1 HX2.out.2.2.2.1.2.1).mono ?_
  rintro e w3 ⟨rfl, hb⟩
  have HX3 := Lib.hid (And.intro (HX2.out.1.below hb) (And.intro (HX2.out.2.1.below hb) (And.intro (keepSt hb HX2.out.2.2.1) (And.intro (keepSt hb HX2.out.2.2.2.1) (keepBelow HX2.out.2.2.2.2 hb)))))
  clear hb
  clear A0 A1 A2 A3 A4 A5 A6 B0 B1 B2 B3 B4 B5 B6 hbe
  obtain ⟨⟨⟨A0, A1, A2, A3, A4, A5, A6⟩, _⟩, ⟨⟨B0, B1, B2, B3, B4, B5, B6⟩, _⟩, _, _, hbe⟩ := HX3.out
  go_wp2
  go_ret
  exact ⟨rfl, hbe⟩
end Go.Proofs.YtnjpceocnldlfaaGreat
