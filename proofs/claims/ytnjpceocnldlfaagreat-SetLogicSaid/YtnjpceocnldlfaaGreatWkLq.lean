import Derived.Test.YtnjpceocnldlfaaGreatWkBf
import Derived.Test.YtnjpceocnldlfaaGreatWkTq
import Derived.Test.YtnjpceocnldlfaaGreatWkFrm
import Derived.Test.YtnjpceocnldlfaaGreatWkRof
/- timeset.Equal; the law package's same. -/
namespace Go.Proofs.YtnjpceocnldlfaaGreat
open Go.RowKit Wk

def eqTB (a b : St) : Bool := (((((VB a && VB b) && (a.fr == b.fr)) && (a.to == b.to)) && peB a.lf.1 a.lf.2 b.lf.1 b.lf.2) && peB a.rt.1 a.rt.2 b.rt.1 b.rt.2) && decide (a.l = b.l)

set_option maxRecDepth 100000 in
set_option maxHeartbeats 4000000 in
theorem tequal_any (a b : St) (al ar av bl br bv : Value) (w : World) (ha : RdSt w a al ar av) (hb : RdSt w b bl br bv) :
    Calls Tryz.prog 23 #[.agg #[.int .i64 a.lf.1, al, .int .i64 a.rt.1, ar, .int .i64 a.fr, .int .i64 a.to, av], .agg #[.int .i64 b.lf.1, bl, .int .i64 b.rt.1, br, .int .i64 b.fr, .int .i64 b.to, bv]] w fun e w' => e = .returned (.bool (eqTB a b)) ∧ Below w.heap.size w w' := by
  have HVA := Lib.hid (fun W h => tvalid_any a al ar av W h)
  have HVB := Lib.hid (fun W h => tvalid_any b bl br bv W h)
  have HPL := Lib.hid (fun W h h' => pequal_any a.lf.1 b.lf.1 al bl a.lf.2 b.lf.2 W h h')
  have HPR := Lib.hid (fun W h h' => pequal_any a.rt.1 b.rt.1 ar br a.rt.2 b.rt.2 W h h')
  have HSL := Lib.hid (fun W h h' => seq_any av bv a.l b.l W h h')
  have HRA := Lib.hid ha
  have HRB := Lib.hid hb
  obtain ⟨a1, n1, e1⟩ := ha.1.form
  obtain ⟨a2, n2, e2⟩ := ha.2.1.form
  obtain ⟨a3, n3, e3⟩ := ha.2.2.form
  obtain ⟨b1, m1, e4⟩ := hb.1.form
  obtain ⟨b2, m2, e5⟩ := hb.2.1.form
  obtain ⟨b3, m3, e6⟩ := hb.2.2.form
  subst e1 e2 e3 e4 e5 e6
  clear ha hb
  obtain ⟨W, hWe⟩ : ∃ W, (w.alloc (.cells #[.int .i64 a.lf.1, .slice a1 a.lf.2.length n1, .int .i64 a.rt.1, .slice a2 a.rt.2.length n2, .int .i64 a.fr, .int .i64 a.to, .slice a3 a.l.length n3] 26)).alloc (.cells #[.int .i64 b.lf.1, .slice b1 b.lf.2.length m1, .int .i64 b.rt.1, .slice b2 b.rt.2.length m2, .int .i64 b.fr, .int .i64 b.to, .slice b3 b.l.length m3] 26) = W := ⟨_, rfl⟩
  have hW : Below w.heap.size w W := by rw [← hWe]; exact ((Below.refl _ w).alloc (Nat.le_refl _) _).alloc (by simp) _
  have HX : Hid (Set7 W w.heap.size (.int .i64 a.lf.1) (.slice a1 a.lf.2.length n1) (.int .i64 a.rt.1) (.slice a2 a.rt.2.length n2) (.int .i64 a.fr) (.int .i64 a.to) (.slice a3 a.l.length n3) ∧ Set7 W (w.heap.size + 1) (.int .i64 b.lf.1) (.slice b1 b.lf.2.length m1) (.int .i64 b.rt.1) (.slice b2 b.rt.2.length m2) (.int .i64 b.fr) (.int .i64 b.to) (.slice b3 b.l.length m3) ∧ RdSt W a (.slice a1 a.lf.2.length n1) (.slice a2 a.rt.2.length n2) (.slice a3 a.l.length n3) ∧ RdSt W b (.slice b1 b.lf.2.length m1) (.slice b2 b.rt.2.length m2) (.slice b3 b.l.length m3) ∧ Below w.heap.size w W) := by
    refine ⟨?_, ?_, keepSt hW HRA.out, keepSt hW HRB.out, hW⟩
    · rw [← hWe]
      refine ⟨⟨?_, ?_, ?_, ?_, ?_, ?_, ?_⟩, ?_, ?_, ?_, ?_, ?_, ?_, ?_⟩ <;> simp [go_sem]
    · rw [← hWe]
      refine ⟨⟨?_, ?_, ?_, ?_, ?_, ?_, ?_⟩, ?_, ?_, ?_, ?_, ?_, ?_, ?_⟩ <;> simp [go_sem]
  have HE := Lib.hid hWe
  clear hWe hW

  have HEQ : Hid (eqTB a b = ((((((VB a && VB b) && (a.fr == b.fr)) && (a.to == b.to)) && peB a.lf.1 a.lf.2 b.lf.1 b.lf.2) && peB a.rt.1 a.rt.2 b.rt.1 b.rt.2) && decide (a.l = b.l))) := rfl
  generalize eqTB a b = r at *
  obtain ⟨g1, h1⟩ : ∃ g, VB a = g := ⟨_, rfl⟩
  obtain ⟨g2, h2⟩ : ∃ g, VB b = g := ⟨_, rfl⟩
  obtain ⟨g5, h5⟩ : ∃ g, peB a.lf.1 a.lf.2 b.lf.1 b.lf.2 = g := ⟨_, rfl⟩
  obtain ⟨g6, h6⟩ : ∃ g, peB a.rt.1 a.rt.2 b.rt.1 b.rt.2 = g := ⟨_, rfl⟩
  obtain ⟨g7, h7⟩ : ∃ g, decide (a.l = b.l) = g := ⟨_, rfl⟩
  rw [h1] at HVA
  rw [h2] at HVB
  rw [h5] at HPL
  rw [h6] at HPR
  rw [h7] at HSL
  rw [h1, h2, h5, h6, h7] at HEQ
  clear h1 h2 h5 h6 h7
  obtain ⟨⟨⟨A0, A1, A2, A3, A4, A5, A6⟩, _⟩, ⟨⟨B0, B1, B2, B3, B4, B5, B6⟩, _⟩, _, _, hbe⟩ := HX.out
  go_enter Tryz.func23, Tryz.ntmps23
  go_wp2_with fail
  rw [HE.out]
  go_wp2_with fail
  refine (HVA.out _ HX.out.2.2.1).mono ?_
  rintro e w1 ⟨rfl, hb⟩
  have HX1 := Lib.hid (And.intro (HX.out.1.below hb) (And.intro (HX.out.2.1.below hb) (And.intro (keepSt hb HX.out.2.2.1) (And.intro (keepSt hb HX.out.2.2.2.1) (keepBelow HX.out.2.2.2.2 hb)))))
  clear hb
  clear A0 A1 A2 A3 A4 A5 A6 B0 B1 B2 B3 B4 B5 B6 hbe
  obtain ⟨⟨⟨A0, A1, A2, A3, A4, A5, A6⟩, _⟩, ⟨⟨B0, B1, B2, B3, B4, B5, B6⟩, _⟩, _, _, hbe⟩ := HX1.out
  cases g1 with
  | false =>
    go_wp2
    go_ret
    exact ⟨ret_bool (by rw [HEQ.out]; simp), hbe⟩
  | true =>
  go_wp2_with fail
  refine (HVB.out _ HX1.out.2.2.2.1).mono ?_
  rintro e w2 ⟨rfl, hb⟩
  have HX2 := Lib.hid (And.intro (HX1.out.1.below hb) (And.intro (HX1.out.2.1.below hb) (And.intro (keepSt hb HX1.out.2.2.1) (And.intro (keepSt hb HX1.out.2.2.2.1) (keepBelow HX1.out.2.2.2.2 hb)))))
  clear hb
  clear A0 A1 A2 A3 A4 A5 A6 B0 B1 B2 B3 B4 B5 B6 hbe
  obtain ⟨⟨⟨A0, A1, A2, A3, A4, A5, A6⟩, _⟩, ⟨⟨B0, B1, B2, B3, B4, B5, B6⟩, _⟩, _, _, hbe⟩ := HX2.out
  cases g2 with
  | false =>
    go_wp2
    go_ret
    exact ⟨ret_bool (by rw [HEQ.out]; simp), hbe⟩
  | true =>
  cases g3 : (a.fr == b.fr) with
  | false =>
    rw [g3] at HEQ
    go_wp2
    go_ret
    exact ⟨ret_bool (by rw [HEQ.out]; simp), hbe⟩
  | true =>
  rw [g3] at HEQ
  cases g4 : (a.to == b.to) with
  | false =>
    rw [g4] at HEQ
    go_wp2
    go_ret
    exact ⟨ret_bool (by rw [HEQ.out]; simp), hbe⟩
  | true =>
  rw [g4] at HEQ
  go_wp2_with fail
  refine (HPL.out _ HX2.out.2.2.1.1 HX2.out.2.2.2.1.1).mono ?_
  rintro e w3 ⟨rfl, hb⟩
  have HX3 := Lib.hid (And.intro (HX2.out.1.below hb) (And.intro (HX2.out.2.1.below hb) (And.intro (keepSt hb HX2.out.2.2.1) (And.intro (keepSt hb HX2.out.2.2.2.1) (keepBelow HX2.out.2.2.2.2 hb)))))
  clear hb
  clear A0 A1 A2 A3 A4 A5 A6 B0 B1 B2 B3 B4 B5 B6 hbe
  obtain ⟨⟨⟨A0, A1, A2, A3, A4, A5, A6⟩, _⟩, ⟨⟨B0, B1, B2, B3, B4, B5, B6⟩, _⟩, _, _, hbe⟩ := HX3.out
  cases g5 with
  | false =>
    go_wp2
    go_ret
    exact ⟨ret_bool (by rw [HEQ.out]; simp), hbe⟩
  | true =>
  go_wp2_with fail
  refine (HPR.out _ HX3.out.2.2.1.2.1 HX3.out.2.2.2.1.2.1).mono ?_
  rintro e w4 ⟨rfl, hb⟩
  have HX4 := Lib.hid (And.intro (HX3.out.1.below hb) (And.intro (HX3.out.2.1.below hb) (And.intro (keepSt hb HX3.out.2.2.1) (And.intro (keepSt hb HX3.out.2.2.2.1) (keepBelow HX3.out.2.2.2.2 hb)))))
  clear hb
  clear A0 A1 A2 A3 A4 A5 A6 B0 B1 B2 B3 B4 B5 B6 hbe
  obtain ⟨⟨⟨A0, A1, A2, A3, A4, A5, A6⟩, _⟩, ⟨⟨B0, B1, B2, B3, B4, B5, B6⟩, _⟩, _, _, hbe⟩ := HX4.out
  cases g6 with
  | false =>
    go_wp2
    go_ret
    exact ⟨ret_bool (by rw [HEQ.out]; simp), hbe⟩
  | true =>
  go_wp2_with fail
  refine (HSL.out _ HX4.out.2.2.1.2.2 HX4.out.2.2.2.1.2.2).mono ?_
  rintro e w5 ⟨rfl, hb⟩
  have HX5 := Lib.hid (And.intro (HX4.out.1.below hb) (And.intro (HX4.out.2.1.below hb) (And.intro (keepSt hb HX4.out.2.2.1) (And.intro (keepSt hb HX4.out.2.2.2.1) (keepBelow HX4.out.2.2.2.2 hb)))))
  clear hb
  clear A0 A1 A2 A3 A4 A5 A6 B0 B1 B2 B3 B4 B5 B6 hbe
  obtain ⟨⟨⟨A0, A1, A2, A3, A4, A5, A6⟩, _⟩, ⟨⟨B0, B1, B2, B3, B4, B5, B6⟩, _⟩, _, _, hbe⟩ := HX5.out
  go_wp2
  go_ret
  exact ⟨ret_bool (by rw [HEQ.out]; simp), hbe⟩

end Go.Proofs.YtnjpceocnldlfaaGreat
namespace Go.Proofs.YtnjpceocnldlfaaGreat
open Go.RowKit Wk

set_option maxHeartbeats 1000000 in
theorem lspan_any (x y : Int) (w : World) : Calls Tryz.prog 29 #[.int .i64 x, .int .i64 y] w fun e w' => e = .returned (.agg #[.int .i64 x, .int .i64 y]) ∧ Below w.heap.size w w' := by
  obtain ⟨⟨r0, r1⟩, _⟩ := box2_new w (.int .i64 x) (.int .i64 y) 40
  have hB0 := (Below.refl w.heap.size w).alloc (Nat.le_refl _) (.cells #[.int .i64 x, .int .i64 y] 40)
  go_enter Tryz.func29, Tryz.ntmps29
  go_wp2
  generalize w.alloc (.cells #[.int .i64 x, .int .i64 y] 40) = Z at *
  refine bodyPost_ret (v := .agg #[.int .i64 x, .int .i64 y]) (by simp [results, Tryz.results29, go_sem, r0, r1]) rfl ?_
  exact ⟨rfl, hB0⟩

set_option maxHeartbeats 1000000 in
theorem every_any (n : Int) (w : World) : Calls Tryz.prog 58 #[.int .i64 n] w fun e w' => ∃ p q, e = .returned (.agg #[.int .i64 n, .slice p 1 q]) ∧ RdS w' (.slice p 1 q) aL ∧ Below w.heap.size w w' := by
  have HS := Lib.hid (fun W => lspan_any 0 1 W)
  obtain ⟨W, hWe⟩ : ∃ W, w.alloc (.cells #[.int .i64 0, .slice none 0 0] 24) = W := ⟨_, rfl⟩
  have hB0 : Below w.heap.size w W := by rw [← hWe]; exact (Below.refl _ w).alloc (Nat.le_refl _) _
  have hBX : Box2 W w.heap.size (.int .i64 0) (.slice none 0 0) := by rw [← hWe]; exact box2_new _ _ _ _
  have hsz : W.heap.size = w.heap.size + 1 := by rw [← hWe]; simp
  have HE := Lib.hid hWe
  clear hWe
  go_enter Tryz.func58, Tryz.ntmps58
  go_wp2_with fail
  rw [HE.out]
  go_wp2_with fail
  refine (HS.out _).mono ?_
  rintro e w1 ⟨rfl, hb1⟩
  have hs1 := hb1.size
  have hba := (Below.refl w1.heap.size w1).alloc (Nat.le_refl _) (.cells #[.int .i64 0, .int .i64 1] 40)
  have hB1 := keepBelow (keepBelow hB0 hb1) hba
  have HBX1 := Lib.hid ((hBX.below hb1).below hba)
  have HON := Lib.hid (own_one w1 (B := W.heap.size) hs1 0 1)
  obtain ⟨⟨z0, z1⟩, f0, f1⟩ := HBX1.out
  clear hb1 hba hBX
  go_wp2
  change bodyPost _ _ _ _ _ (put2 (w1.alloc (.cells #[.int .i64 0, .int .i64 1] 40)) w.heap.size (.int .i64 n) (.slice (some ⟨w1.heap.size, 0, none⟩) 1 1))
  obtain ⟨r0, r1⟩ := HBX1.out.put (.int .i64 n) (.slice (some ⟨w1.heap.size, 0, none⟩) 1 1)
  have hBZ := put2_below (.int .i64 n) (.slice (some ⟨w1.heap.size, 0, none⟩) 1 1) hB1 (b := w.heap.size) (Nat.le_refl _)
  have hOZ := put2_own (.int .i64 n) (.slice (some ⟨w1.heap.size, 0, none⟩) 1 1) HON.out (b := w.heap.size) (by omega)
  generalize put2 (w1.alloc (.cells #[.int .i64 0, .int .i64 1] 40)) w.heap.size (.int .i64 n) (.slice (some ⟨w1.heap.size, 0, none⟩) 1 1) = Z at *
  refine bodyPost_ret (v := .agg #[.int .i64 n, .slice (some ⟨w1.heap.size, 0, none⟩) 1 1]) (by simp [results, Tryz.results58, go_sem, r0, r1]) rfl ?_
  exact ⟨_, _, rfl, hOZ.rd (by simp), hBZ⟩

theorem ak_from : fromM [(7, 8)] = (aH, 0) := by
  have h1 : allV [(7, 8)] = true := by decide +kernel
  have h2 : unL [(7, 8)] = [(7, 8)] := (un_of h1 (L := [(7, 8)]) ⟨by decide, fun t ht => by simp at ht, trivial⟩ (fun x => rfl)).symm
  have h3 : runsOfM [(7, 8)] = ([(7, 8)], 0) := by
    unfold runsOfM
    rw [if_neg (by rw [h1]; simp), h2]
    rfl
  unfold fromM
  rw [h3]
  rfl
theorem ak_of : ofM ⟨(2, aL), (4, aL), 10, 10, []⟩ = (aB, 0) := by
  unfold ofM
  rw [if_pos ak_givenB, ak_formB]

theorem set7_new (W : World) (x0 x1 x2 x3 x4 x5 x6 : Value) : Set7 (W.alloc (.cells #[x0, x1, x2, x3, x4, x5, x6] 26)) W.heap.size x0 x1 x2 x3 x4 x5 x6 := by
  refine ⟨⟨?_, ?_, ?_, ?_, ?_, ?_, ?_⟩, ?_, ?_, ?_, ?_, ?_, ?_, ?_⟩ <;> simp [go_sem]

set_option maxRecDepth 100000 in
set_option maxHeartbeats 4000000 in
theorem awake14_any (w : World) : Calls Tryz.prog 14 #[] w fun e w' => e = .returned (.bool true) ∧ Below w.heap.size w w' := by
  have HEV := Lib.hid (fun n W => every_any n W)
  have HSP := Lib.hid (fun W => lspan_any 7 8 W)
  have HFR : Hid (∀ v W, RdS W v [(7, 8)] → Calls Tryz.prog 38 #[v] W fun e w' => ∃ p1 q1 p2 q2 p3 q3, e = .returned (.tuple #[.agg #[.int .i64 1, .slice p1 0 q1, .int .i64 1, .slice p2 0 q2, .int .i64 7, .int .i64 8, .slice p3 1 q3], .int .i64 0]) ∧ RdSt w' aH (.slice p1 0 q1) (.slice p2 0 q2) (.slice p3 1 q3) ∧ Below W.heap.size W w') := by
    intro v W h
    have := from_any v [(7, 8)] W h (by simp)
    rw [ak_from] at this
    refine this.mono ?_
    rintro e w' ⟨vl, vr, vv, rfl, hr, hb⟩
    obtain ⟨p1, q1, rfl⟩ := hr.1.form
    obtain ⟨p2, q2, rfl⟩ := hr.2.1.form
    obtain ⟨p3, q3, rfl⟩ := hr.2.2.form
    exact ⟨p1, q1, p2, q2, p3, q3, rfl, hr, hb⟩
  have HMI : Hid (∀ al ar av bl br bv W, RdSt W a7 al ar av → RdSt W aH bl br bv → Calls Tryz.prog 54 #[.agg #[.int .i64 7, al, .int .i64 7, ar, .int .i64 0, .int .i64 0, av], .agg #[.int .i64 1, bl, .int .i64 1, br, .int .i64 7, .int .i64 8, bv]] W fun e w' => ∃ p1 q1 p2 q2 p3 q3, e = .returned (.tuple #[.agg #[.int .i64 7, .slice p1 1 q1, .int .i64 7, .slice p2 1 q2, .int .i64 7, .int .i64 8, .slice p3 0 q3], .int .i64 0]) ∧ RdSt w' aA (.slice p1 1 q1) (.slice p2 1 q2) (.slice p3 0 q3) ∧ Below W.heap.size W w') := by
    intro al ar av bl br bv W h h'
    have := tMinus_any a7 aH al ar av bl br bv W h h'
    rw [ak_minus] at this
    refine Calls.mono (show Calls _ _ _ _ _ from this) ?_
    rintro e w' ⟨vl, vr, vv, rfl, hr, hb⟩
    obtain ⟨p1, q1, rfl⟩ := hr.1.form
    obtain ⟨p2, q2, rfl⟩ := hr.2.1.form
    obtain ⟨p3, q3, rfl⟩ := hr.2.2.form
    exact ⟨p1, q1, p2, q2, p3, q3, rfl, hr, hb⟩
  have HOF : Hid (∀ al ar av W, RdSt W ⟨(2, aL), (4, aL), 10, 10, []⟩ al ar av → Calls Tryz.prog 17 #[.agg #[.int .i64 2, al], .agg #[.int .i64 4, ar], .int .i64 10, .int .i64 10, av] W fun e w' => ∃ p1 q1 p2 q2 p3 q3, e = .returned (.tuple #[.agg #[.int .i64 2, .slice p1 1 q1, .int .i64 4, .slice p2 1 q2, .int .i64 7, .int .i64 7, .slice p3 0 q3], .int .i64 0]) ∧ RdSt w' aB (.slice p1 1 q1) (.slice p2 1 q2) (.slice p3 0 q3) ∧ Below W.heap.size W w') := by
    intro al ar av W h
    have := tof_any ⟨(2, aL), (4, aL), 10, 10, []⟩ al ar av W h
    rw [ak_of] at this
    refine Calls.mono (show Calls _ _ _ _ _ from this) ?_
    rintro e w' ⟨vl, vr, vv, rfl, hr, hb⟩
    obtain ⟨p1, q1, rfl⟩ := hr.1.form
    obtain ⟨p2, q2, rfl⟩ := hr.2.1.form
    obtain ⟨p3, q3, rfl⟩ := hr.2.2.form
    exact ⟨p1, q1, p2, q2, p3, q3, rfl, hr, hb⟩
  have HHA : Hid (∀ (x : Int) (r : Bool) (al ar av : Value) (W : World), RdSt W aB al ar av → -1000 ≤ x → x ≤ 1000 → hasS aB x = r → Calls Tryz.prog 21 #[.agg #[.int .i64 2, al, .int .i64 4, ar, .int .i64 7, .int .i64 7, av], .int .i64 x] W fun e w' => e = .returned (.bool r) ∧ Below W.heap.size W w') := by
    intro x r al ar av W h h1 h2 hr
    have := thas_any aB al ar av x W h (by omega) (by omega)
    rw [ak_VB', hr] at this
    exact this
  go_enter Tryz.func14, Tryz.ntmps14
  go_wp2_with fail
  refine (HEV.out 7 _).mono ?_
  rintro e w1 ⟨p1, q1, rfl, hr1, hb1⟩
  go_wp2_with fail
  refine (HEV.out 7 _).mono ?_
  rintro e w2 ⟨p2, q2, rfl, hr2, hb2⟩
  have hba2 := (Below.refl w2.heap.size w2).alloc (Nat.le_refl _) (.cells #[.int .i64 7, .slice p1 1 q1, .int .i64 7, .slice p2 1 q2, .int .i64 0, .int .i64 0, .slice none 0 0] 26)
  have hB := keepBelow (keepBelow hb1 hb2) hba2
  have HA : Hid (RdSt (w2.alloc (.cells #[.int .i64 7, .slice p1 1 q1, .int .i64 7, .slice p2 1 q2, .int .i64 0, .int .i64 0, .slice none 0 0] 26)) a7 (.slice p1 1 q1) (.slice p2 1 q2) (.slice none 0 0)) := ⟨keepRd hba2 (keepRd hb2 hr1), keepRd hba2 hr2, rd_none _⟩
  have HX := Lib.hid (set7_new w2 (.int .i64 7) (.slice p1 1 q1) (.int .i64 7) (.slice p2 1 q2) (.int .i64 0) (.int .i64 0) (.slice none 0 0))
  clear hb1 hb2 hr1 hr2 hba2
  go_wp2_with fail
  refine (HSP.out _).mono ?_
  rintro e w3 ⟨rfl, hb3⟩
  have hba3 := (Below.refl w3.heap.size w3).alloc (Nat.le_refl _) (.cells #[.int .i64 7, .int .i64 8] 40)
  have hB := keepBelow (keepBelow hB hb3) hba3
  have HA := Lib.hid (keepSt hba3 (keepSt hb3 HA.out))
  have HX := Lib.hid ((HX.out.below hb3).below hba3)
  have HN := Lib.hid ((own_one w3 (B := 0) (Nat.zero_le _) 7 8).rd (by simp))
  clear hb3 hba3
  go_wp2_with fail
  refine (HFR.out _ _ HN.out).mono ?_
  rintro e w4 ⟨p3, q3, p4, q4, p5, q5, rfl, hr4, hb4⟩
  have hba4 := (Below.refl w4.heap.size w4).alloc (Nat.le_refl _) (.cells #[.int .i64 1, .slice p3 0 q3, .int .i64 1, .slice p4 0 q4, .int .i64 7, .int .i64 8, .slice p5 1 q5] 26)
  have hB := keepBelow (keepBelow hB hb4) hba4
  have HA := Lib.hid (keepSt hba4 (keepSt hb4 HA.out))
  have HH := Lib.hid (keepSt hba4 hr4)
  have HX := Lib.hid ((HX.out.below hb4).below hba4)
  have HY := Lib.hid (set7_new w4 (.int .i64 1) (.slice p3 0 q3) (.int .i64 1) (.slice p4 0 q4) (.int .i64 7) (.int .i64 8) (.slice p5 1 q5))
  obtain ⟨⟨A0, A1, A2, A3, A4, A5, A6⟩, _⟩ := HX.out
  obtain ⟨⟨B0, B1, B2, B3, B4, B5, B6⟩, _⟩ := HY.out
  clear hb4 hba4 hr4 HN
  go_wp2_with fail
  refine (HMI.out _ _ _ _ _ _ _ HA.out HH.out).mono ?_
  rintro e w5 ⟨p6, q6, p7, q7, p8, q8, rfl, hr5, hb5⟩
  have hba5 := (Below.refl w5.heap.size w5).alloc (Nat.le_refl _) (.cells #[.int .i64 7, .slice p6 1 q6, .int .i64 7, .slice p7 1 q7, .int .i64 7, .int .i64 8, .slice p8 0 q8] 26)
  have hB := keepBelow (keepBelow hB hb5) hba5
  have HX := Lib.hid (set7_new w5 (.int .i64 7) (.slice p6 1 q6) (.int .i64 7) (.slice p7 1 q7) (.int .i64 7) (.int .i64 8) (.slice p8 0 q8))
  clear hb5 hba5 hr5 A0 A1 A2 A3 A4 A5 A6 B0 B1 B2 B3 B4 B5 B6 HY HA HH
  go_wp2_with fail
  refine (HEV.out 2 _).mono ?_
  rintro e w6 ⟨p1, q1, rfl, hr1, hb1⟩
  have hB := keepBelow hB hb1
  have HX := Lib.hid (HX.out.below hb1)
  go_wp2_with fail
  refine (HEV.out 4 _).mono ?_
  rintro e w7 ⟨p2, q2, rfl, hr2, hb2⟩
  have hB := keepBelow hB hb2
  have HX := Lib.hid (HX.out.below hb2)
  have HS : Hid (RdSt w7 ⟨(2, aL), (4, aL), 10, 10, []⟩ (.slice p1 1 q1) (.slice p2 1 q2) (.slice none 0 0)) := ⟨keepRd hb2 hr1, hr2, rd_none _⟩
  clear hb1 hb2 hr1 hr2
  go_wp2_with fail
  refine (HOF.out _ _ _ _ HS.out).mono ?_
  rintro e w8 ⟨p3, q3, p4, q4, p5, q5, rfl, hr8, hb8⟩
  have hba8 := (Below.refl w8.heap.size w8).alloc (Nat.le_refl _) (.cells #[.int .i64 2, .slice p3 1 q3, .int .i64 4, .slice p4 1 q4, .int .i64 7, .int .i64 7, .slice p5 0 q5] 26)
  have hB := keepBelow (keepBelow hB hb8) hba8
  have HX := Lib.hid ((HX.out.below hb8).below hba8)
  have HBS := Lib.hid (keepSt hba8 hr8)
  have HY := Lib.hid (set7_new w8 (.int .i64 2) (.slice p3 1 q3) (.int .i64 4) (.slice p4 1 q4) (.int .i64 7) (.int .i64 7) (.slice p5 0 q5))
  obtain ⟨⟨A0, A1, A2, A3, A4, A5, A6⟩, _⟩ := HX.out
  obtain ⟨⟨B0, B1, B2, B3, B4, B5, B6⟩, _⟩ := HY.out
  clear hb8 hba8 hr8 HS
  go_wp2_with fail
  refine (HHA.out 8 true _ _ _ _ HBS.out (by decide) (by decide) (by decide +kernel)).mono ?_
  rintro e w9 ⟨rfl, hb9⟩
  have hB := keepBelow hB hb9
  have HY := Lib.hid (HY.out.below hb9)
  have HBS := Lib.hid (keepSt hb9 HBS.out)
  clear hb9 A0 A1 A2 A3 A4 A5 A6 B0 B1 B2 B3 B4 B5 B6 HX
  obtain ⟨⟨B0, B1, B2, B3, B4, B5, B6⟩, _⟩ := HY.out
  go_wp2_with fail
  refine (HHA.out 10 false _ _ _ _ HBS.out (by decide) (by decide) (by decide +kernel)).mono ?_
  rintro e w10 ⟨rfl, hb10⟩
  go_wp2
  go_ret
  exact ⟨rfl, keepBelow hB hb10⟩
end Go.Proofs.YtnjpceocnldlfaaGreat
namespace Go.Proofs.YtnjpceocnldlfaaGreat
open Go.RowKit Wk

def grB (P : Int) (l : List Sp) : Bool := (decide (1048576 < P) && decide (P ≤ 12622780800)) || decide (40 < (l.length : Int))
def lgB (s : St) : Bool := (grB s.lf.1 s.lf.2 || grB s.rt.1 s.rt.2) || decide (40 < (s.l.length : Int))

set_option maxHeartbeats 1000000 in
theorem great_any (P : Int) (v : Value) (l : List Sp) (w : World) (h : RdS w v l) :
    Calls Tryz.prog 34 #[.agg #[.int .i64 P, v]] w fun e w' => e = .returned (.bool (grB P l)) ∧ Below w.heap.size w w' := by
  obtain ⟨a, c, rfl⟩ := h.form
  obtain ⟨W, hWe⟩ : ∃ W, w.alloc (.cells #[.int .i64 P, .slice a l.length c] 24) = W := ⟨_, rfl⟩
  have hB0 : Below w.heap.size w W := by rw [← hWe]; exact (Below.refl _ w).alloc (Nat.le_refl _) _
  have HBX : Hid (Box2 W w.heap.size (.int .i64 P) (.slice a l.length c)) := by unfold Hid; rw [← hWe]; exact box2_new _ _ _ _
  obtain ⟨⟨z0, z1⟩, _⟩ := HBX.out
  have HE := Lib.hid hWe
  clear hWe h
  have HG : Hid (grB P l = ((decide (1048576 < P) && decide (P ≤ 12622780800)) || decide (40 < (l.length : Int)))) := rfl
  generalize grB P l = g at *
  cases g1 : decide (1048576 < P) with
  | false =>
    rw [g1] at HG
    go_enter Tryz.func34, Tryz.ntmps34
    go_wp2_with fail
    rw [HE.out]
    go_wp2
    go_ret
    exact ⟨ret_bool (by rw [HG.out]; simp), hB0⟩
  | true =>
    cases g2 : decide (P ≤ 12622780800) with
    | false =>
      rw [g1, g2] at HG
      go_enter Tryz.func34, Tryz.ntmps34
      go_wp2_with fail
      rw [HE.out]
      go_wp2
      go_ret
      exact ⟨ret_bool (by rw [HG.out]; simp), hB0⟩
    | true =>
      rw [g1, g2] at HG
      go_enter Tryz.func34, Tryz.ntmps34
      go_wp2_with fail
      rw [HE.out]
      go_wp2
      go_ret
      exact ⟨ret_bool (by rw [HG.out]; simp), hB0⟩

set_option maxRecDepth 100000 in
set_option maxHeartbeats 2000000 in
theorem largef_any (s : St) (vl vr vv : Value) (w : World) (h : RdSt w s vl vr vv) :
    Calls Tryz.prog 60 #[.agg #[.int .i64 s.lf.1, vl, .int .i64 s.rt.1, vr, .int .i64 s.fr, .int .i64 s.to, vv]] w fun e w' => e = .returned (.bool (lgB s)) ∧ Below w.heap.size w w' := by
  obtain ⟨⟨P, l⟩, ⟨Q, m⟩, f, t, k⟩ := s
  simp only at h ⊢
  have HG1 := Lib.hid (fun W h => great_any P vl l W h)
  have HG2 := Lib.hid (fun W h => great_any Q vr m W h)
  have HR0 := Lib.hid h
  have HL : Hid (lgB ⟨(P, l), (Q, m), f, t, k⟩ = ((grB P l || grB Q m) || decide (40 < (k.length : Int)))) := rfl
  generalize lgB ⟨(P, l), (Q, m), f, t, k⟩ = g at *
  obtain ⟨g1, hg1⟩ : ∃ g1, grB P l = g1 := ⟨_, rfl⟩
  obtain ⟨g2, hg2⟩ : ∃ g2, grB Q m = g2 := ⟨_, rfl⟩
  rw [hg1] at HG1 HL
  rw [hg2] at HG2 HL
  clear hg1 hg2
  obtain ⟨a1, n1, rfl⟩ := h.1.form
  obtain ⟨a2, n2, rfl⟩ := h.2.1.form
  obtain ⟨a3, n3, rfl⟩ := h.2.2.form
  simp only at HR0 ⊢
  clear h
  obtain ⟨W, hWe⟩ : ∃ W, w.alloc (.cells #[.int .i64 P, .slice a1 l.length n1, .int .i64 Q, .slice a2 m.length n2, .int .i64 f, .int .i64 t, .slice a3 k.length n3] 26) = W := ⟨_, rfl⟩
  have hW : Below w.heap.size w W := by rw [← hWe]; exact (Below.refl _ w).alloc (Nat.le_refl _) _
  have HX : Hid (Set7 W w.heap.size (.int .i64 P) (.slice a1 l.length n1) (.int .i64 Q) (.slice a2 m.length n2) (.int .i64 f) (.int .i64 t) (.slice a3 k.length n3)) := by
    rw [← hWe]
    refine ⟨⟨?_, ?_, ?_, ?_, ?_, ?_, ?_⟩, ?_, ?_, ?_, ?_, ?_, ?_, ?_⟩ <;> simp [go_sem]
  have HR := Lib.hid (keepSt hW HR0.out)
  have HE := Lib.hid hWe
  clear hWe
  obtain ⟨⟨B0, B1, B2, B3, B4, B5, B6⟩, _⟩ := HX.out
  go_enter Tryz.func60, Tryz.ntmps60
  go_wp2_with fail
  rw [HE.out]
  go_wp2_with fail
  refine (HG1.out _ HR.out.1).mono ?_
  rintro e w1 ⟨rfl, hb1⟩
  have HX1 := Lib.hid (HX.out.below hb1)
  have HR1 := Lib.hid (keepSt hb1 HR.out)
  have hB1 := keepBelow hW hb1
  clear hb1 B0 B1 B2 B3 B4 B5 B6 HX HR HE
  obtain ⟨⟨B0, B1, B2, B3, B4, B5, B6⟩, _⟩ := HX1.out
  cases g1 with
  | true =>
    go_wp2
    go_ret
    exact ⟨ret_bool (by rw [HL.out]; simp), hB1⟩
  | false =>
  go_wp2_with fail
  refine (HG2.out _ HR1.out.2.1).mono ?_
  rintro e w2 ⟨rfl, hb2⟩
  have HX2 := Lib.hid (HX1.out.below hb2)
  have hB2 := keepBelow hB1 hb2
  clear hb2 B0 B1 B2 B3 B4 B5 B6 HX1
  obtain ⟨⟨B0, B1, B2, B3, B4, B5, B6⟩, _⟩ := HX2.out
  cases g2 with
  | true =>
    go_wp2
    go_ret
    exact ⟨ret_bool (by rw [HL.out]; simp), hB2⟩
  | false =>
    go_wp2
    go_ret
    exact ⟨ret_bool (by rw [HL.out]; simp), hB2⟩

abbrev Sv := St × Value × Value × Value
def RdV (W : World) (x : Sv) : Prop := RdSt W x.1 x.2.1 x.2.2.1 x.2.2.2
def RdT (W : World) (v : Value) (L : List Sv) : Prop := L.length ≤ 1000 ∧ ∃ b c, v = .slice (some ⟨b, 0, none⟩) L.length c ∧ ∀ (i : Nat) (x : Sv), L[i]? = some x → RdV W x ∧
  W.cell? ⟨b, i * 7, none⟩ = some (.int .i64 x.1.lf.1) ∧ W.cell? ⟨b, i * 7 + 1, none⟩ = some x.2.1 ∧ W.cell? ⟨b, i * 7 + 2, none⟩ = some (.int .i64 x.1.rt.1) ∧ W.cell? ⟨b, i * 7 + 3, none⟩ = some x.2.2.1 ∧ W.cell? ⟨b, i * 7 + 4, none⟩ = some (.int .i64 x.1.fr) ∧ W.cell? ⟨b, i * 7 + 5, none⟩ = some (.int .i64 x.1.to) ∧ W.cell? ⟨b, i * 7 + 6, none⟩ = some x.2.2.2
def anyL (L : List Sv) : Bool := L.any fun x => lgB x.1
theorem anyL_iff (L : List Sv) : anyL L = false ↔ ∀ (i : Nat) (x : Sv), L[i]? = some x → lgB x.1 = false := by
  unfold anyL
  rw [List.any_eq_false]
  constructor
  · intro h i x hx
    simpa using h x (List.mem_of_getElem? hx)
  · intro h x hx
    obtain ⟨i, hi⟩ := List.mem_iff_getElem?.1 hx
    simpa using h i x hi

set_option maxRecDepth 100000 in
set_option maxHeartbeats 2000000 in
theorem idxT_any (v : Value) (L : List Sv) (w : World) (h : RdT w v L) :
    Calls Tryz.prog 111 #[v, .func (.func 60) #[] #[]] w fun e w' => (∃ r : Int, e = .returned (.int .i64 r) ∧ (decide (0 ≤ r) = anyL L)) ∧ Below w.heap.size w w' := by
  obtain ⟨hl, b, c, rfl, hc⟩ := h
  have HC := Lib.hid hc
  clear hc
  go_enter Tryz.func111, Tryz.ntmps111
  go_wp2_with fail
  go_loopw [8] (fun u wr => ∃ k : Nat, u = .int .i64 k ∧ k ≤ L.length ∧ Hid (∀ (i : Nat) (x : Sv), i < k → L[i]? = some x → lgB x.1 = false) ∧ Below w.heap.size w wr) (fun u _ => L.length - (intOf u).toNat)
  case atStart => exact ⟨0, rfl, Nat.zero_le _, fun i x hi => by omega, Below.refl _ _⟩
  case round =>
    obtain ⟨k, rfl, hk, HZ, hB⟩ := hrel
    by_cases hlt : k < L.length
    · obtain ⟨x, hx⟩ : ∃ x, L[k]? = some x := ⟨_, List.getElem?_eq_getElem hlt⟩
      obtain ⟨hr, q0, q1, q2, q3, q4, q5, q6⟩ := HC.out k x hx
      have HX := Lib.hid hx
      have hr1 := keepSt hB hr
      have HF := Lib.hid (largef_any x.1 x.2.1 x.2.2.1 x.2.2.2 wr hr1)
      obtain ⟨a1, n1, e1⟩ := hr.1.form
      obtain ⟨a2, n2, e2⟩ := hr.2.1.form
      obtain ⟨a3, n3, e3⟩ := hr.2.2.form
      rw [e1] at q1 HF
      rw [e2] at q3 HF
      rw [e3] at q6 HF
      have p0 := keepCell hB q0
      have p1 := keepCell hB q1
      have p2 := keepCell hB q2
      have p3 := keepCell hB q3
      have p4 := keepCell hB q4
      have p5 := keepCell hB q5
      have p6 := keepCell hB q6
      clear hx hr hr1 e1 e2 e3 q0 q1 q2 q3 q4 q5 q6
      obtain ⟨g, hg⟩ : ∃ g, lgB x.1 = g := ⟨_, rfl⟩
      rw [hg] at HF
      have HG := Lib.hid hg
      clear hg
      go_wp2_with fail
      refine HF.out.mono ?_
      rintro e w1 ⟨rfl, hb1⟩
      have hB1 := keepBelow hB hb1
      clear p0 p1 p2 p3 p4 p5 p6
      cases g with
      | false =>
        go_wp2
        go_roundw
        case rel =>
          refine ⟨k + 1, by go_num, by omega, fun i y hi hy => ?_, hB1⟩
          rcases Nat.lt_succ_iff_lt_or_eq.1 hi with h | rfl
          · exact HZ.out i y h hy
          · rw [HX.out] at hy
            cases hy
            exact HG.out
        case measure => simp [intOf]; omega
      | true =>
        have hA : anyL L = true := by
          cases hA : anyL L with
          | true => rfl
          | false => have := (anyL_iff L).1 hA k x HX.out; rw [HG.out] at this; cases this
        go_wp2
        go_ret
        exact ⟨⟨k, rfl, by rw [hA]; simp⟩, hB1⟩
    · have hA : anyL L = false := (anyL_iff L).2 fun i x hx => HZ.out i x (by
        have := (List.getElem?_eq_some_iff.1 hx).1
        omega) hx
      go_wp2
      go_ret
      exact ⟨⟨-1, rfl, by rw [hA]; simp⟩, hB⟩
theorem conT_any (v : Value) (L : List Sv) (w : World) (h : RdT w v L) :
    Calls Tryz.prog 59 #[v, .func (.func 60) #[] #[]] w fun e w' => e = .returned (.bool (anyL L)) ∧ Below w.heap.size w w' := by
  have H := Lib.hid (fun W h => idxT_any v L W h)
  have HD := Lib.hid h
  obtain ⟨_, b, c, rfl, _⟩ := h
  go_enter Tryz.func59, Tryz.ntmps59
  go_wp2_with fail
  refine (H.out _ HD.out).mono ?_
  rintro e w1 ⟨⟨r, rfl, hr⟩, hb1⟩
  have HRR := Lib.hid hr
  clear hr
  go_wp2
  go_ret
  exact ⟨ret_bool HRR.out, hb1⟩
theorem large14_any (v : Value) (L : List Sv) (w : World) (h : RdT w v L) :
    Calls Tryz.prog 15 #[v] w fun e w' => e = .returned (.bool (anyL L)) ∧ Below w.heap.size w w' := by
  have H := Lib.hid (fun W h => conT_any v L W h)
  have HD := Lib.hid h
  obtain ⟨_, b, c, rfl, _⟩ := h
  go_enter Tryz.func15, Tryz.ntmps15
  go_wp2_with fail
  refine (H.out _ HD.out).mono ?_
  rintro e w1 ⟨rfl, hb1⟩
  go_wp2
  go_ret
  exact ⟨rfl, hb1⟩
end Go.Proofs.YtnjpceocnldlfaaGreat
