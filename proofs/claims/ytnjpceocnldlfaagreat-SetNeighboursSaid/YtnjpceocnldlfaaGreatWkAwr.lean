import Derived.Test.YtnjpceocnldlfaaGreatWkTopN
import Derived.Test.YtnjpceocnldlfaaGreatWkFrm
/- The law package's span, every, awake. -/
namespace Go.Proofs.YtnjpceocnldlfaaGreat
open Go.RowKit Wk

set_option maxHeartbeats 1000000 in
theorem lspan_any (x y : Int) (w : World) : Calls Tryz.prog 29 #[.int .i64 x, .int .i64 y] w fun e w' => e = .returned (.agg #[.int .i64 x, .int .i64 y]) ∧ Below w.heap.size w w' := by
  obtain ⟨⟨r0, r1⟩, _⟩ := box2_new w (.int .i64 x) (.int .i64 y) 40
  have hB0 := (Below.refl w.heap.size w).alloc (Nat.le_refl _) (.cells #[.int .i64 x, .int .i64 y] 40)
  go_enter Tryz.func29, Tryz.ntmps29
  go_wp2
  generalize w.alloc (.cells #[.int .i64 x, .int .i64 y] 40) = Z at *
  refine bodyPost_ret (v := .agg #[.int .i64 x, .int .i64 y]) (by simp [results, Tryz.results29, go_sem, r0, r1]) rfl ?_
  exact ⟨rfl, hB0⟩

set_option maxHeartbeats 1000000 in
theorem every_any (n : Int) (w : World) : Calls Tryz.prog 58 #[.int .i64 n] w fun e w' => ∃ p q, e = .returned (.agg #[.int .i64 n, .slice p 1 q]) ∧ RdS w' (.slice p 1 q) aL ∧ Below w.heap.size w w' := by
  have HS := Lib.hid (fun W => lspan_any 0 1 W)
  obtain ⟨W, hWe⟩ : ∃ W, w.alloc (.cells #[.int .i64 0, .slice none 0 0] 24) = W := ⟨_, rfl⟩
  have hB0 : Below w.heap.size w W := by rw [← hWe]; exact (Below.refl _ w).alloc (Nat.le_refl _) _
  have hBX : Box2 W w.heap.size (.int .i64 0) (.slice none 0 0) := by rw [← hWe]; exact box2_new _ _ _ _
  have hsz : W.heap.size = w.heap.size + 1 := by rw [← hWe]; simp
  have HE := Lib.hid hWe
  clear hWe
  go_enter Tryz.func58, Tryz.ntmps58
  go_wp2_with fail
  rw [HE.out]
  go_wp2_with fail
  refine (HS.out _).mono ?_
  rintro e w1 ⟨rfl, hb1⟩
  have hs1 := hb1.size
  have hba := (Below.refl w1.heap.size w1).alloc (Nat.le_refl _) (.cells #[.int .i64 0, .int .i64 1] 40)
  have hB1 := keepBelow (keepBelow hB0 hb1) hba
  have HBX1 := Lib.hid ((hBX.below hb1).below hba)
  have HON := Lib.hid (own_one w1 (B := W.heap.size) hs1 0 1)
  obtain ⟨⟨z0, z1⟩, f0, f1⟩ := HBX1.out
  clear hb1 hba hBX
  go_wp2
  change bodyPost _ _ _ _ _ (put2 (w1.alloc (.cells #[.int .i64 0, .int .i64 1] 40)) w.heap.size (.int .i64 n) (.slice (some ⟨w1.heap.size, 0, none⟩) 1 1))
  obtain ⟨r0, r1⟩ := HBX1.out.put (.int .i64 n) (.slice (some ⟨w1.heap.size, 0, none⟩) 1 1)
  have hBZ := put2_below (.int .i64 n) (.slice (some ⟨w1.heap.size, 0, none⟩) 1 1) hB1 (b := w.heap.size) (Nat.le_refl _)
  have hOZ := put2_own (.int .i64 n) (.slice (some ⟨w1.heap.size, 0, none⟩) 1 1) HON.out (b := w.heap.size) (by omega)
  generalize put2 (w1.alloc (.cells #[.int .i64 0, .int .i64 1] 40)) w.heap.size (.int .i64 n) (.slice (some ⟨w1.heap.size, 0, none⟩) 1 1) = Z at *
  refine bodyPost_ret (v := .agg #[.int .i64 n, .slice (some ⟨w1.heap.size, 0, none⟩) 1 1]) (by simp [results, Tryz.results58, go_sem, r0, r1]) rfl ?_
  exact ⟨_, _, rfl, hOZ.rd (by simp), hBZ⟩

theorem ak_from : fromM [(7, 8)] = (aH, 0) := by
  have h1 : allV [(7, 8)] = true := by decide +kernel
  have h2 : unL [(7, 8)] = [(7, 8)] := (un_of h1 (L := [(7, 8)]) ⟨by decide, fun t ht => by simp at ht, trivial⟩ (fun x => rfl)).symm
  have h3 : runsOfM [(7, 8)] = ([(7, 8)], 0) := by
    unfold runsOfM
    rw [if_neg (by rw [h1]; simp), h2]
    rfl
  unfold fromM
  rw [h3]
  rfl
theorem ak_of : ofM ⟨(2, aL), (4, aL), 10, 10, []⟩ = (aB, 0) := by
  unfold ofM
  rw [if_pos ak_givenB, ak_formB]

theorem set7_new (W : World) (x0 x1 x2 x3 x4 x5 x6 : Value) : Set7 (W.alloc (.cells #[x0, x1, x2, x3, x4, x5, x6] 26)) W.heap.size x0 x1 x2 x3 x4 x5 x6 := by
  refine ⟨⟨?_, ?_, ?_, ?_, ?_, ?_, ?_⟩, ?_, ?_, ?_, ?_, ?_, ?_, ?_⟩ <;> simp [go_sem]

set_option maxRecDepth 100000 in
set_option maxHeartbeats 4000000 in
theorem awake14_any (w : World) : Calls Tryz.prog 14 #[] w fun e w' => e = .returned (.bool true) ∧ Below w.heap.size w w' := by
  have HEV := Lib.hid (fun n W => every_any n W)
  have HSP := Lib.hid (fun W => lspan_any 7 8 W)
  have HFR : Hid (∀ v W, RdS W v [(7, 8)] → Calls Tryz.prog 38 #[v] W fun e w' => ∃ p1 q1 p2 q2 p3 q3, e = .returned (.tuple #[.agg #[.int .i64 1, .slice p1 0 q1, .int .i64 1, .slice p2 0 q2, .int .i64 7, .int .i64 8, .slice p3 1 q3], .int .i64 0]) ∧ RdSt w' aH (.slice p1 0 q1) (.slice p2 0 q2) (.slice p3 1 q3) ∧ Below W.heap.size W w') := by
    intro v W h
    have := from_any v [(7, 8)] W h (by simp)
    rw [ak_from] at this
    refine this.mono ?_
    rintro e w' ⟨vl, vr, vv, rfl, hr, hb⟩
    obtain ⟨p1, q1, rfl⟩ := hr.1.form
    obtain ⟨p2, q2, rfl⟩ := hr.2.1.form
    obtain ⟨p3, q3, rfl⟩ := hr.2.2.form
    exact ⟨p1, q1, p2, q2, p3, q3, rfl, hr, hb⟩
  have HMI : Hid (∀ al ar av bl br bv W, RdSt W a7 al ar av → RdSt W aH bl br bv → Calls Tryz.prog 54 #[.agg #[.int .i64 7, al, .int .i64 7, ar, .int .i64 0, .int .i64 0, av], .agg #[.int .i64 1, bl, .int .i64 1, br, .int .i64 7, .int .i64 8, bv]] W fun e w' => ∃ p1 q1 p2 q2 p3 q3, e = .returned (.tuple #[.agg #[.int .i64 7, .slice p1 1 q1, .int .i64 7, .slice p2 1 q2, .int .i64 7, .int .i64 8, .slice p3 0 q3], .int .i64 0]) ∧ RdSt w' aA (.slice p1 1 q1) (.slice p2 1 q2) (.slice p3 0 q3) ∧ Below W.heap.size W w') := by
    intro al ar av bl br bv W h h'
    have := tMinus_any a7 aH al ar av bl br bv W h h'
    rw [ak_minus] at this
    refine Calls.mono (show Calls _ _ _ _ _ from this) ?_
    rintro e w' ⟨vl, vr, vv, rfl, hr, hb⟩
    obtain ⟨p1, q1, rfl⟩ := hr.1.form
    obtain ⟨p2, q2, rfl⟩ := hr.2.1.form
    obtain ⟨p3, q3, rfl⟩ := hr.2.2.form
    exact ⟨p1, q1, p2, q2, p3, q3, rfl, hr, hb⟩
  have HOF : Hid (∀ al ar av W, RdSt W ⟨(2, aL), (4, aL), 10, 10, []⟩ al ar av → Calls Tryz.prog 17 #[.agg #[.int .i64 2, al], .agg #[.int .i64 4, ar], .int .i64 10, .int .i64 10, av] W fun e w' => ∃ p1 q1 p2 q2 p3 q3, e = .returned (.tuple #[.agg #[.int .i64 2, .slice p1 1 q1, .int .i64 4, .slice p2 1 q2, .int .i64 7, .int .i64 7, .slice p3 0 q3], .int .i64 0]) ∧ RdSt w' aB (.slice p1 1 q1) (.slice p2 1 q2) (.slice p3 0 q3) ∧ Below W.heap.size W w') := by
    intro al ar av W h
    have := tof_any ⟨(2, aL), (4, aL), 10, 10, []⟩ al ar av W h
    rw [ak_of] at this
    refine Calls.mono (show Calls _ _ _ _ _ from this) ?_
    rintro e w' ⟨vl, vr, vv, rfl, hr, hb⟩
    obtain ⟨p1, q1, rfl⟩ := hr.1.form
    obtain ⟨p2, q2, rfl⟩ := hr.2.1.form
    obtain ⟨p3, q3, rfl⟩ := hr.2.2.form
    exact ⟨p1, q1, p2, q2, p3, q3, rfl, hr, hb⟩
  have HHA : Hid (∀ (x : Int) (r : Bool) (al ar av : Value) (W : World), RdSt W aB al ar av → -1000 ≤ x → x ≤ 1000 → hasS aB x = r → Calls Tryz.prog 21 #[.agg #[.int .i64 2, al, .int .i64 4, ar, .int .i64 7, .int .i64 7, av], .int .i64 x] W fun e w' => e = .returned (.bool r) ∧ Below W.heap.size W w') := by
    intro x r al ar av W h h1 h2 hr
    have := thas_any aB al ar av x W h (by omega) (by omega)
    rw [ak_VB', hr] at this
    exact this
  go_enter Tryz.func14, Tryz.ntmps14
  go_wp2_with fail
  refine (HEV.out 7 _).mono ?_
  rintro e w1 ⟨p1, q1, rfl, hr1, hb1⟩
  go_wp2_with fail
  refine (HEV.out 7 _).mono ?_
  rintro e w2 ⟨p2, q2, rfl, hr2, hb2⟩
  have hba2 := (Below.refl w2.heap.size w2).alloc (Nat.le_refl _) (.cells #[.int .i64 7, .slice p1 1 q1, .int .i64 7, .slice p2 1 q2, .int .i64 0, .int .i64 0, .slice none 0 0] 26)
  have hB := keepBelow (keepBelow hb1 hb2) hba2
  have HA : Hid (RdSt (w2.alloc (.cells #[.int .i64 7, .slice p1 1 q1, .int .i64 7, .slice p2 1 q2, .int .i64 0, .int .i64 0, .slice none 0 0] 26)) a7 (.slice p1 1 q1) (.slice p2 1 q2) (.slice none 0 0)) := ⟨keepRd hba2 (keepRd hb2 hr1), keepRd hba2 hr2, rd_none _⟩
  have HX := Lib.hid (set7_new w2 (.int .i64 7) (.slice p1 1 q1) (.int .i64 7) (.slice p2 1 q2) (.int .i64 0) (.int .i64 0) (.slice none 0 0))
  clear hb1 hb2 hr1 hr2 hba2
  go_wp2_with fail
  refine (HSP.out _).mono ?_
  rintro e w3 ⟨rfl, hb3⟩
  have hba3 := (Below.refl w3.heap.size w3).alloc (Nat.le_refl _) (.cells #[.int .i64 7, .int .i64 8] 40)
  have hB := keepBelow (keepBelow hB hb3) hba3
  have HA := Lib.hid (keepSt hba3 (keepSt hb3 HA.out))
  have HX := Lib.hid ((HX.out.below hb3).below hba3)
  have HN := Lib.hid ((own_one w3 (B := 0) (Nat.zero_le _) 7 8).rd (by simp))
  clear hb3 hba3
  go_wp2_with fail
  refine (HFR.out _ _ HN.out).mono ?_
  rintro e w4 ⟨p3, q3, p4, q4, p5, q5, rfl, hr4, hb4⟩
  have hba4 := (Below.refl w4.heap.size w4).alloc (Nat.le_refl _) (.cells #[.int .i64 1, .slice p3 0 q3, .int .i64 1, .slice p4 0 q4, .int .i64 7, .int .i64 8, .slice p5 1 q5] 26)
  have hB := keepBelow (keepBelow hB hb4) hba4
  have HA := Lib.hid (keepSt hba4 (keepSt hb4 HA.out))
  have HH := Lib.hid (keepSt hba4 hr4)
  have HX := Lib.hid ((HX.out.below hb4).below hba4)
  have HY := Lib.hid (set7_new w4 (.int .i64 1) (.slice p3 0 q3) (.int .i64 1) (.slice p4 0 q4) (.int .i64 7) (.int .i64 8) (.slice p5 1 q5))
  obtain ⟨⟨A0, A1, A2, A3, A4, A5, A6⟩, _⟩ := HX.out
  obtain ⟨⟨B0, B1, B2, B3, B4, B5, B6⟩, _⟩ := HY.out
  clear hb4 hba4 hr4 HN
  go_wp2_with fail
  refine (HMI.out _ _ _ _ _ _ _ HA.out HH.out).mono ?_
  rintro e w5 ⟨p6, q6, p7, q7, p8, q8, rfl, hr5, hb5⟩
  have hba5 := (Below.refl w5.heap.size w5).alloc (Nat.le_refl _) (.cells #[.int .i64 7, .slice p6 1 q6, .int .i64 7, .slice p7 1 q7, .int .i64 7, .int .i64 8, .slice p8 0 q8] 26)
  have hB := keepBelow (keepBelow hB hb5) hba5
  have HX := Lib.hid (set7_new w5 (.int .i64 7) (.slice p6 1 q6) (.int .i64 7) (.slice p7 1 q7) (.int .i64 7) (.int .i64 8) (.slice p8 0 q8))
  clear hb5 hba5 hr5 A0 A1 A2 A3 A4 A5 A6 B0 B1 B2 B3 B4 B5 B6 HY HA HH
  go_wp2_with fail
  refine (HEV.out 2 _).mono ?_
  rintro e w6 ⟨p1, q1, rfl, hr1, hb1⟩
  have hB := keepBelow hB hb1
  have HX := Lib.hid (HX.out.below hb1)
  go_wp2_with fail
  refine (HEV.out 4 _).mono ?_
  rintro e w7 ⟨p2, q2, rfl, hr2, hb2⟩
  have hB := keepBelow hB hb2
  have HX := Lib.hid (HX.out.below hb2)
  have HS : Hid (RdSt w7 ⟨(2, aL), (4, aL), 10, 10, []⟩ (.slice p1 1 q1) (.slice p2 1 q2) (.slice none 0 0)) := ⟨keepRd hb2 hr1, hr2, rd_none _⟩
  clear hb1 hb2 hr1 hr2
  go_wp2_with fail
  refine (HOF.out _ _ _ _ HS.out).mono ?_
  rintro e w8 ⟨p3, q3, p4, q4, p5, q5, rfl, hr8, hb8⟩
  have hba8 := (Below.refl w8.heap.size w8).alloc (Nat.le_refl _) (.cells #[.int .i64 2, .slice p3 1 q3, .int .i64 4, .slice p4 1 q4, .int .i64 7, .int .i64 7, .slice p5 0 q5] 26)
  have hB := keepBelow (keepBelow hB hb8) hba8
  have HX := Lib.hid ((HX.out.below hb8).below hba8)
  have HBS := Lib.hid (keepSt hba8 hr8)
  have HY := Lib.hid (set7_new w8 (.int .i64 2) (.slice p3 1 q3) (.int .i64 4) (.slice p4 1 q4) (.int .i64 7) (.int .i64 7) (.slice p5 0 q5))
  obtain ⟨⟨A0, A1, A2, A3, A4, A5, A6⟩, _⟩ := HX.out
  obtain ⟨⟨B0, B1, B2, B3, B4, B5, B6⟩, _⟩ := HY.out
  clear hb8 hba8 hr8 HS
  go_wp2_with fail
  refine (HHA.out 8 true _ _ _ _ HBS.out (by decide) (by decide) (by decide +kernel)).mono ?_
  rintro e w9 ⟨rfl, hb9⟩
  have hB := keepBelow hB hb9
  have HY := Lib.hid (HY.out.below hb9)
  have HBS := Lib.hid (keepSt hb9 HBS.out)
  clear hb9 A0 A1 A2 A3 A4 A5 A6 B0 B1 B2 B3 B4 B5 B6 HX
  obtain ⟨⟨B0, B1, B2, B3, B4, B5, B6⟩, _⟩ := HY.out
  go_wp2_with fail
  refine (HHA.out 10 false _ _ _ _ HBS.out (by decide) (by decide) (by decide +kernel)).mono ?_
  rintro e w10 ⟨rfl, hb10⟩
  go_wp2
  go_ret
  exact ⟨rfl, keepBelow hB hb10⟩
end Go.Proofs.YtnjpceocnldlfaaGreat
