import Derived.Test.YtnjpceocnldlfaaGreatWkPs
import Derived.Test.YtnjpceocnldlfaaGreatWkAwr
import Derived.Test.YtnjpceocnldlfaaGreatWkTopU
import Derived.Test.YtnjpceocnldlfaaGreatWkLrg
import Derived.Test.YtnjpceocnldlfaaGreatWkTeq
import Derived.Test.YtnjpceocnldlfaaGreatWkC13
/- The law SetPure. -/
namespace Go.Proofs.YtnjpceocnldlfaaGreat
open Go.RowKit Wk

theorem eqT_refl {s : St} (h : VB s = true) : eqTB s s = true := by
  have a := okS_of_VB h
  unfold eqTB peB
  rw [h, a.lf, a.rt]
  simp

set_option maxRecDepth 100000 in
set_option maxHeartbeats 8000000 in
theorem law_SetPure (P : Int) (v : Value) (l : List Sp) (Q : Int) (u : Value) (m : List Sp) (w : World) (ha : RdS w v l) (hb : RdS w u m) :
    Calls Tryz.prog 6 #[.agg #[.int .i64 P, v], .agg #[.int .i64 Q, u]] w fun e w' => e = .returned (.bool true) ∧ Below w.heap.size w w' := by
  have HAW := Lib.hid (fun W => awake14_any W)
  have HG1 := Lib.hid (fun W h => great_any P v l W h)
  have HG2 := Lib.hid (fun W h => great_any Q u m W h)
  have HV1 := Lib.hid (fun W h => pv13_any P v l W h)
  have HV2 := Lib.hid (fun W h => pv13_any Q u m W h)
  have HUN : Hid (∀ W, RdS W v l → RdS W u m → Calls Tryz.prog 36 #[.agg #[.int .i64 P, v, .int .i64 P, v, .int .i64 0, .int .i64 0, .slice none 0 0], .agg #[.int .i64 Q, u, .int .i64 Q, u, .int .i64 0, .int .i64 0, .slice none 0 0]] W (TsPost (combM 0 (pureF (P, l)) (pureF (Q, m))) W)) :=
    fun W h h' => tUnion_any (pureF (P, l)) (pureF (Q, m)) v v (.slice none 0 0) u u (.slice none 0 0) W ⟨h, h, rd_none W⟩ ⟨h', h', rd_none W⟩
  have HCB := Lib.hid (fun W h h' => comb13_any 0 P Q v u l m W h h')
  have HRA := Lib.hid ha
  have HRB := Lib.hid hb
  obtain ⟨a1, n1, rfl⟩ := ha.form
  obtain ⟨a2, n2, rfl⟩ := hb.form
  clear ha hb
  obtain ⟨W, hWe⟩ : ∃ W, (w.alloc (.cells #[.int .i64 P, .slice a1 l.length n1] 24)).alloc (.cells #[.int .i64 Q, .slice a2 m.length n2] 24) = W := ⟨_, rfl⟩
  have hW : Below w.heap.size w W := by rw [← hWe]; exact ((Below.refl _ w).alloc (Nat.le_refl _) _).alloc (by simp) _
  have HX : Hid (Box2 W w.heap.size (.int .i64 P) (.slice a1 l.length n1) ∧ Box2 W (w.heap.size + 1) (.int .i64 Q) (.slice a2 m.length n2) ∧ RdS W (.slice a1 l.length n1) l ∧ RdS W (.slice a2 m.length n2) m ∧ Below w.heap.size w W) := by
    refine ⟨?_, ?_, keepRd hW HRA.out, keepRd hW HRB.out, hW⟩
    · rw [← hWe]
      refine ⟨⟨?_, ?_⟩, ?_, ?_⟩ <;> simp [go_sem]
    · rw [← hWe]
      refine ⟨⟨?_, ?_⟩, ?_, ?_⟩ <;> simp [go_sem]
  have HE := Lib.hid hWe
  clear hWe hW
  obtain ⟨g1, hg1⟩ : ∃ g, grB P l = g := ⟨_, rfl⟩
  obtain ⟨g2, hg2⟩ : ∃ g, grB Q m = g := ⟨_, rfl⟩
  obtain ⟨g3, hg3⟩ : ∃ g, pvB P l = g := ⟨_, rfl⟩
  obtain ⟨g4, hg4⟩ : ∃ g, pvB Q m = g := ⟨_, rfl⟩
  rw [hg1] at HG1
  rw [hg2] at HG2
  rw [hg3] at HV1
  rw [hg4] at HV2
  have HP1 := Lib.hid hg3
  have HP2 := Lib.hid hg4
  clear hg1 hg2 hg3 hg4
  obtain ⟨⟨⟨A0, A1⟩, _⟩, ⟨⟨B0, B1⟩, _⟩, _, _, hbe⟩ := HX.out
  go_enter Tryz.func6, Tryz.ntmps6
  go_wp2_with fail
  rw [HE.out]
  go_wp2_with fail
  refine (HAW.out _).mono ?_
  rintro e w1 ⟨rfl, hb⟩
  have HX1 := Lib.hid (And.intro (HX.out.1.below hb) (And.intro (HX.out.2.1.below hb) (And.intro (keepRd hb HX.out.2.2.1) (And.intro (keepRd hb HX.out.2.2.2.1) (keepBelow HX.out.2.2.2.2 hb)))))
  clear A0 A1 B0 B1 hbe
  obtain ⟨⟨⟨A0, A1⟩, _⟩, ⟨⟨B0, B1⟩, _⟩, _, _, hbe⟩ := HX1.out
  clear hb
  go_wp2_with fail
  refine (HG1.out _ HX1.out.2.2.1).mono ?_
  rintro e w2 ⟨rfl, hb⟩
  have HX2 := Lib.hid (And.intro (HX1.out.1.below hb) (And.intro (HX1.out.2.1.below hb) (And.intro (keepRd hb HX1.out.2.2.1) (And.intro (keepRd hb HX1.out.2.2.2.1) (keepBelow HX1.out.2.2.2.2 hb)))))
  clear A0 A1 B0 B1 hbe
  obtain ⟨⟨⟨A0, A1⟩, _⟩, ⟨⟨B0, B1⟩, _⟩, _, _, hbe⟩ := HX2.out
  clear hb
  cases g1 with
  | true =>
    go_wp2
    go_ret
    exact ⟨rfl, hbe⟩
  | false =>
  go_wp2_with fail
  refine (HG2.out _ HX2.out.2.2.2.1).mono ?_
  rintro e w3 ⟨rfl, hb⟩
  have HX3 := Lib.hid (And.intro (HX2.out.1.below hb) (And.intro (HX2.out.2.1.below hb) (And.intro (keepRd hb HX2.out.2.2.1) (And.intro (keepRd hb HX2.out.2.2.2.1) (keepBelow HX2.out.2.2.2.2 hb)))))
  clear A0 A1 B0 B1 hbe
  obtain ⟨⟨⟨A0, A1⟩, _⟩, ⟨⟨B0, B1⟩, _⟩, _, _, hbe⟩ := HX3.out
  clear hb
  cases g2 with
  | true =>
    go_wp2
    go_ret
    exact ⟨rfl, hbe⟩
  | false =>
  go_wp2_with fail
  refine (HV1.out _ HX3.out.2.2.1).mono ?_
  rintro e w4 ⟨rfl, hb⟩
  have HX4 := Lib.hid (And.intro (HX3.out.1.below hb) (And.intro (HX3.out.2.1.below hb) (And.intro (keepRd hb HX3.out.2.2.1) (And.intro (keepRd hb HX3.out.2.2.2.1) (keepBelow HX3.out.2.2.2.2 hb)))))
  clear A0 A1 B0 B1 hbe
  obtain ⟨⟨⟨A0, A1⟩, _⟩, ⟨⟨B0, B1⟩, _⟩, _, _, hbe⟩ := HX4.out
  clear hb
  cases g3 with
  | false =>
    go_wp2
    go_ret
    exact ⟨rfl, hbe⟩
  | true =>
  go_wp2_with fail
  refine (HV2.out _ HX4.out.2.2.2.1).mono ?_
  rintro e w5 ⟨rfl, hb⟩
  have HX5 := Lib.hid (And.intro (HX4.out.1.below hb) (And.intro (HX4.out.2.1.below hb) (And.intro (keepRd hb HX4.out.2.2.1) (And.intro (keepRd hb HX4.out.2.2.2.1) (keepBelow HX4.out.2.2.2.2 hb)))))
  clear A0 A1 B0 B1 hbe
  obtain ⟨⟨⟨A0, A1⟩, _⟩, ⟨⟨B0, B1⟩, _⟩, _, _, hbe⟩ := HX5.out
  clear hb
  cases g4 with
  | false =>
    go_wp2
    go_ret
    exact ⟨rfl, hbe⟩
  | true =>
  have HCO := Lib.hid (comb_pure (k := 0) (p := (P, l)) (q := (Q, m)) HP1.out HP2.out)
  obtain ⟨⟨r, e0⟩, hr⟩ : ∃ r, bothM 0 (P, l) (Q, m) = r := ⟨_, rfl⟩
  rw [hr] at HCB
  have HOK : Hid (e0 = 0 → pvB r.1 r.2 = true) := fun he => by
    have := bothM_ok (kind := 0) (p := (P, l)) (q := (Q, m)) (by rw [hr]; exact he)
    rw [hr] at this
    exact this.2.2.1
  rw [hr] at HCO
  simp only at HCO
  clear hr
  have HUN' : Hid (∀ W, RdS W (.slice a1 l.length n1) l → RdS W (.slice a2 m.length n2) m → Calls Tryz.prog 36 #[.agg #[.int .i64 P, .slice a1 l.length n1, .int .i64 P, .slice a1 l.length n1, .int .i64 0, .int .i64 0, .slice none 0 0], .agg #[.int .i64 Q, .slice a2 m.length n2, .int .i64 Q, .slice a2 m.length n2, .int .i64 0, .int .i64 0, .slice none 0 0]] W fun e w' => ∃ p4 q4 p5 q5 p6 q6, ((e0 = 0 → e = .returned (.tuple #[.agg #[.int .i64 r.1, .slice p4 r.2.length q4, .int .i64 r.1, .slice p5 r.2.length q5, .int .i64 0, .int .i64 0, .slice p6 0 q6], .int .i64 0]) ∧ RdSt w' (pureF r) (.slice p4 r.2.length q4) (.slice p5 r.2.length q5) (.slice p6 0 q6)) ∧ (e0 ≠ 0 → e = .returned (.tuple #[.agg #[.int .i64 0, .slice p4 0 q4, .int .i64 0, .slice p5 0 q5, .int .i64 0, .int .i64 0, .slice p6 0 q6], .int .i64 e0]))) ∧ Below W.heap.size W w') := by
    intro W h h'
    have := HUN.out W h h'
    rw [HCO.out] at this
    by_cases he : e0 = 0
    · rw [if_pos he] at this
      refine this.mono ?_
      rintro e w' ⟨vl, vr, vv, rfl, hr, hb⟩
      obtain ⟨p4, q4, rfl⟩ := hr.1.form
      obtain ⟨p5, q5, rfl⟩ := hr.2.1.form
      obtain ⟨p6, q6, rfl⟩ := hr.2.2.form
      exact ⟨p4, q4, p5, q5, p6, q6, ⟨fun _ => ⟨rfl, hr⟩, fun h => absurd he h⟩, hb⟩
    · rw [if_neg he] at this
      refine this.mono ?_
      rintro e w' ⟨vl, vr, vv, rfl, hr, hb⟩
      obtain ⟨p4, q4, rfl⟩ := hr.1.form
      obtain ⟨p5, q5, rfl⟩ := hr.2.1.form
      obtain ⟨p6, q6, rfl⟩ := hr.2.2.form
      exact ⟨p4, q4, p5, q5, p6, q6, ⟨fun h => absurd h he, fun _ => rfl⟩, hb⟩
  go_wp2_with fail
  refine (HUN'.out _ HX5.out.2.2.1 HX5.out.2.2.2.1).mono ?_
  rintro e w6 ⟨p4, q4, p5, q5, p6, q6, ⟨hpost1, hpost2⟩, hb⟩
  have HX6 := Lib.hid (And.intro (HX5.out.1.below hb) (And.intro (HX5.out.2.1.below hb) (And.intro (keepRd hb HX5.out.2.2.1) (And.intro (keepRd hb HX5.out.2.2.2.1) (keepBelow HX5.out.2.2.2.2 hb)))))
  clear A0 A1 B0 B1 hbe
  clear hb
  by_cases he : e0 ≠ 0
  · have hp := hpost2 he
    subst hp
    clear hpost1 hpost2
    have t1 : (e0 != 0) = true := by simpa using he
    obtain ⟨⟨C0, _⟩, _⟩ := set7_new w6 (.int .i64 0) (.slice p4 0 q4) (.int .i64 0) (.slice p5 0 q5) (.int .i64 0) (.int .i64 0) (.slice p6 0 q6)
    have hb := (Below.refl w6.heap.size w6).alloc (Nat.le_refl _) (.cells #[.int .i64 0, .slice p4 0 q4, .int .i64 0, .slice p5 0 q5, .int .i64 0, .int .i64 0, .slice p6 0 q6] 26)
    obtain ⟨⟨⟨A0, A1⟩, _⟩, ⟨⟨B0, B1⟩, _⟩, _, _, hbe⟩ := HX6.out
    have hbe := keepBelow hbe hb
    clear he
    go_wp2
    go_ret
    exact ⟨rfl, hbe⟩
  have he : e0 = 0 := by omega
  obtain ⟨hp, hr6⟩ := hpost1 he
  subst he
  subst hp
  clear hpost1 hpost2
  have HPV := Lib.hid (HOK.out rfl)
  have HEQ : Hid (∀ al ar av bl br bv W, RdSt W (pureF r) al ar av → RdSt W (pureF r) bl br bv → Calls Tryz.prog 23 #[.agg #[.int .i64 r.1, al, .int .i64 r.1, ar, .int .i64 0, .int .i64 0, av], .agg #[.int .i64 r.1, bl, .int .i64 r.1, br, .int .i64 0, .int .i64 0, bv]] W fun e w' => e = .returned (.bool true) ∧ Below W.heap.size W w') := by
    intro al ar av bl br bv W h h'
    have := tequal_any (pureF r) (pureF r) al ar av bl br bv W h h'
    rwa [eqT_refl (VB_pure HPV.out)] at this
  have HL : Hid (r.2.length ≤ 2000) := (canon_of_rvB (rvB_of_pvB HPV.out).1).2.2
  have HCB' : Hid (∀ W, RdS W (.slice a1 l.length n1) l → RdS W (.slice a2 m.length n2) m → Calls Tryz.prog 37 #[.agg #[.int .i64 P, .slice a1 l.length n1], .agg #[.int .i64 Q, .slice a2 m.length n2], .int .i64 0] W fun e w' => ∃ p7 q7, (e = .returned (.tuple #[.agg #[.int .i64 r.1, .slice p7 r.2.length q7], .int .i64 0]) ∧ RdS w' (.slice p7 r.2.length q7) r.2) ∧ Below W.heap.size W w') := by
    intro W h h'
    refine (HCB.out W h h').mono ?_
    rintro e w' ⟨v', rfl, ho, hb⟩
    obtain ⟨p7, q7, rfl, _⟩ := ho.form
    exact ⟨p7, q7, ⟨rfl, ho.rd (by have := HL.out; simp only; omega)⟩, hb⟩
  have hb := (Below.refl w6.heap.size w6).alloc (Nat.le_refl _) (.cells #[.int .i64 r.1, .slice p4 r.2.length q4, .int .i64 r.1, .slice p5 r.2.length q5, .int .i64 0, .int .i64 0, .slice p6 0 q6] 26)
  have HRU := Lib.hid (keepSt hb hr6)
  have HBU := Lib.hid (set7_new w6 (.int .i64 r.1) (.slice p4 r.2.length q4) (.int .i64 r.1) (.slice p5 r.2.length q5) (.int .i64 0) (.int .i64 0) (.slice p6 0 q6))
  have HX6' := Lib.hid (And.intro (HX6.out.1.below hb) (And.intro (HX6.out.2.1.below hb) (And.intro (keepRd hb HX6.out.2.2.1) (And.intro (keepRd hb HX6.out.2.2.2.1) (keepBelow HX6.out.2.2.2.2 hb)))))
  obtain ⟨⟨⟨A0, A1⟩, _⟩, ⟨⟨B0, B1⟩, _⟩, _, _, hbe⟩ := HX6'.out
  clear hb hr6
  go_wp2_with fail
  refine (HCB'.out _ HX6'.out.2.2.1 HX6'.out.2.2.2.1).mono ?_
  rintro e w7 ⟨p7, q7, ⟨rfl, hr7⟩, hb⟩
  have HX7 := Lib.hid (And.intro (HX6'.out.1.below hb) (And.intro (HX6'.out.2.1.below hb) (And.intro (keepRd hb HX6'.out.2.2.1) (And.intro (keepRd hb HX6'.out.2.2.2.1) (keepBelow HX6'.out.2.2.2.2 hb)))))
  have HRU := Lib.hid (keepSt hb HRU.out)
  have HBU := Lib.hid (HBU.out.below hb)
  clear A0 A1 B0 B1 hbe
  clear hb
  have hb := (Below.refl w7.heap.size w7).alloc (Nat.le_refl _) (.cells #[.int .i64 r.1, .slice p7 r.2.length q7] 24)
  have HX7' := Lib.hid (And.intro (HX7.out.1.below hb) (And.intro (HX7.out.2.1.below hb) (And.intro (keepRd hb HX7.out.2.2.1) (And.intro (keepRd hb HX7.out.2.2.2.1) (keepBelow HX7.out.2.2.2.2 hb)))))
  have HRU := Lib.hid (keepSt hb HRU.out)
  have HBU := Lib.hid (HBU.out.below hb)
  have HRP := Lib.hid (keepRd hb hr7)
  have HBP := Lib.hid (box2_new w7 (.int .i64 r.1) (.slice p7 r.2.length q7) 24)
  obtain ⟨⟨⟨A0, A1⟩, _⟩, ⟨⟨B0, B1⟩, _⟩, _, _, hbe⟩ := HX7'.out
  obtain ⟨⟨C0, C1, C2, C3, C4, C5, C6⟩, _⟩ := HBU.out
  obtain ⟨⟨D0, D1⟩, _⟩ := HBP.out
  clear hb hr7
  go_wp2_with fail
  refine (HEQ.out _ _ _ _ _ _ _ HRU.out ⟨HRP.out, HRP.out, rd_none _⟩).mono ?_
  rintro e w8 ⟨rfl, hb⟩
  have hbe := keepBelow hbe hb
  go_wp2
  go_ret
  exact ⟨rfl, hbe⟩
end Go.Proofs.YtnjpceocnldlfaaGreat
