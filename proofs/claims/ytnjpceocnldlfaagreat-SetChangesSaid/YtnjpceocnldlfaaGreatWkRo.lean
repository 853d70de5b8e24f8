import Derived.Test.YtnjpceocnldlfaaGreatWkNd
import Derived.Test.YtnjpceocnldlfaaGreatWkRfC
import Derived.Test.YtnjpceocnldlfaaGreatWkLq
/- The reference's Not of a set. -/
namespace Go.Proofs.YtnjpceocnldlfaaGreat
open Go.RowKit Wk

set_option maxRecDepth 100000 in
set_option maxHeartbeats 8000000 in
theorem not14_any (a : St) (al ar av : Value) (w : World) (ha : RdSt w a al ar av) :
    Calls Tryz.prog 55 #[.agg #[.int .i64 a.lf.1, al, .int .i64 a.rt.1, ar, .int .i64 a.fr, .int .i64 a.to, av]] w (TsPost (setNot a) w) := by
  have HVA := Lib.hid (fun W h => valid14_any a al ar av W h)
  have HPL := Lib.hid (fun W h => rNotPer a.lf.1 al a.lf.2 W h)
  have HPR := Lib.hid (fun W h => rNotPer a.rt.1 ar a.rt.2 W h)
  have HRA := Lib.hid ha
  obtain ⟨a1, n1, e1⟩ := ha.1.form
  obtain ⟨a2, n2, e2⟩ := ha.2.1.form
  obtain ⟨a3, n3, e3⟩ := ha.2.2.form
  subst e1 e2 e3
  obtain ⟨W, hWe⟩ : ∃ W, (w.alloc (.cells #[.int .i64 a.lf.1, .slice a1 a.lf.2.length n1, .int .i64 a.rt.1, .slice a2 a.rt.2.length n2, .int .i64 a.fr, .int .i64 a.to, .slice a3 a.l.length n3] 26)).alloc (.cells #[.int .i64 0, .slice none 0 0, .int .i64 0, .slice none 0 0, .int .i64 0, .int .i64 0, .slice none 0 0] 26) = W := ⟨_, rfl⟩
  have hW : Below w.heap.size w W := by rw [← hWe]; exact ((Below.refl _ w).alloc (Nat.le_refl _) _).alloc (by simp) _
  have HI : Hid (NtIn w a (.slice a1 a.lf.2.length n1) (.slice a2 a.rt.2.length n2) (.slice a3 a.l.length n3) W) := by
    refine ⟨?_, ?_, ?_, keepSt hW HRA.out, hW⟩
    · rw [← hWe]
      refine ⟨⟨?_, ?_, ?_, ?_, ?_, ?_, ?_⟩, ?_, ?_, ?_, ?_, ?_, ?_, ?_⟩ <;> simp [go_sem]
    · rw [← hWe]
      refine ⟨⟨?_, ?_, ?_, ?_, ?_, ?_, ?_⟩, ?_, ?_, ?_, ?_, ?_, ?_, ?_⟩ <;> simp [go_sem]
    · rw [← hWe]
      have := zero7_new (w.alloc (.cells #[.int .i64 a.lf.1, .slice a1 a.lf.2.length n1, .int .i64 a.rt.1, .slice a2 a.rt.2.length n2, .int .i64 a.fr, .int .i64 a.to, .slice a3 a.l.length n3] 26))
      simpa using this
  have HE := Lib.hid hWe
  clear hWe hW ha HRA
  obtain ⟨⟨⟨A0, A1, A2, A3, A4, A5, A6⟩, _⟩, ⟨⟨Z0, Z1, Z2, Z3, Z4, Z5, Z6⟩, K0, K1, K2, K3, K4, K5, K6⟩, _, _, hbe⟩ := HI.out
  obtain ⟨ga, hga⟩ : ∃ g, VB a = g := ⟨_, rfl⟩
  rw [hga] at HVA
  have HGA := Lib.hid hga
  clear hga
  have HMO : Hid (setNot a = twoM perNot (notRest a) a) := rfl
  rw [HMO.out]
  clear HMO
  go_enter Tryz.func55, Tryz.ntmps55
  go_wp2_with fail
  rw [HE.out]
  go_wp2_with fail
  refine (HVA.out _ HI.out.ra).mono ?_
  rintro e w1 ⟨rfl, hb1⟩
  have HI1 := Lib.hid (HI.out.below hb1)
  clear hb1 HE
  clear A0 A1 A2 A3 A4 A5 A6 Z0 Z1 Z2 Z3 Z4 Z5 Z6 K0 K1 K2 K3 K4 K5 K6 hbe
  obtain ⟨⟨⟨A0, A1, A2, A3, A4, A5, A6⟩, _⟩, ⟨⟨Z0, Z1, Z2, Z3, Z4, Z5, Z6⟩, K0, K1, K2, K3, K4, K5, K6⟩, _, _, hbe⟩ := HI1.out
  cases ga with
  | false =>
    have HM := Lib.hid (two_bad (op := perNot) (rest := (notRest a)) HGA.out)
    go_wp2
    change bodyPost _ _ _ _ _ (put7 w1 (w.heap.size + 1) (.int .i64 0) (.slice none 0 0) (.int .i64 0) (.slice none 0 0) (.int .i64 0) (.int .i64 0) (.slice none 0 0))
    obtain ⟨r0, r1, r2, r3, r4, r5, r6⟩ := put7_at (.int .i64 0) (.slice none 0 0) (.int .i64 0) (.slice none 0 0) (.int .i64 0) (.int .i64 0) (.slice none 0 0) Z0 Z1 Z2 Z3 Z4 Z5 Z6
    have hBZ := put7_below (.int .i64 0) (.slice none 0 0) (.int .i64 0) (.slice none 0 0) (.int .i64 0) (.int .i64 0) (.slice none 0 0) hbe (b := (w.heap.size + 1)) (by omega)
    generalize put7 w1 (w.heap.size + 1) (.int .i64 0) (.slice none 0 0) (.int .i64 0) (.slice none 0 0) (.int .i64 0) (.int .i64 0) (.slice none 0 0) = Z at *
    refine bodyPost_ret (v := .tuple #[.agg #[.int .i64 0, .slice none 0 0, .int .i64 0, .slice none 0 0, .int .i64 0, .int .i64 0, .slice none 0 0], .int .i64 1]) (by simp [results, Tryz.results55, go_sem, r0, r1, r2, r3, r4, r5, r6]) rfl ?_
    show TsPost _ w _ _
    rw [HM.out]
    exact ⟨_, _, _, rfl, rdst_no _, hBZ⟩
  | true =>
  have HOA := Lib.hid (okS_of_VB HGA.out)
  go_wp2_with fail
  refine (HPL.out _ HI1.out.ra.1).mono ?_
  rintro e w3 ⟨v1, rfl, o1, hb3⟩
  obtain ⟨⟨⟨P1, l1⟩, e1⟩, hr1⟩ : ∃ r, perNot (a.lf.1, a.lf.2) = r := ⟨_, rfl⟩
  rw [hr1] at o1 ⊢
  have HB1 : Hid (perNot a.lf = ((P1, l1), e1)) := hr1
  clear hr1
  simp only at o1 ⊢
  obtain ⟨p1, q1, rfl⟩ := o1.form
  have HA3 := Lib.hid ((Below.refl w3.heap.size w3).alloc (Nat.le_refl _) (.cells #[.int .i64 P1, .slice p1 l1.length q1] 24))
  have HI3 : Hid (NtIn w a (.slice a1 a.lf.2.length n1) (.slice a2 a.rt.2.length n2) (.slice a3 a.l.length n3) (w3.alloc (.cells #[.int .i64 P1, .slice p1 l1.length q1] 24))) := (HI1.out.below hb3).below HA3.out
  have HO1 := Lib.hid (keepRd HA3.out o1)
  have HX1 : Hid (Box2 (w3.alloc (.cells #[.int .i64 P1, .slice p1 l1.length q1] 24)) w3.heap.size (.int .i64 P1) (.slice p1 l1.length q1)) := box2_new _ _ _ _
  clear hb3 o1
  clear A0 A1 A2 A3 A4 A5 A6 Z0 Z1 Z2 Z3 Z4 Z5 Z6 K0 K1 K2 K3 K4 K5 K6 hbe
  obtain ⟨⟨⟨A0, A1, A2, A3, A4, A5, A6⟩, _⟩, ⟨⟨Z0, Z1, Z2, Z3, Z4, Z5, Z6⟩, K0, K1, K2, K3, K4, K5, K6⟩, _, _, hbe⟩ := HI3.out
  by_cases h1 : e1 ≠ 0
  ·
    have HM := Lib.hid (two_left (op := perNot) (rest := (notRest a)) HGA.out (by rw [HB1.out]) h1)
    have t1 : (e1 != 0) = true := by simpa using h1
    clear h1
    go_wp2
    change bodyPost _ _ _ _ _ (put7 (w3.alloc (.cells #[.int .i64 P1, .slice p1 l1.length q1] 24)) (w.heap.size + 1) (.int .i64 0) (.slice none 0 0) (.int .i64 0) (.slice none 0 0) (.int .i64 0) (.int .i64 0) (.slice none 0 0))
    obtain ⟨r0, r1, r2, r3, r4, r5, r6⟩ := put7_at (.int .i64 0) (.slice none 0 0) (.int .i64 0) (.slice none 0 0) (.int .i64 0) (.int .i64 0) (.slice none 0 0) Z0 Z1 Z2 Z3 Z4 Z5 Z6
    have hBZ := put7_below (.int .i64 0) (.slice none 0 0) (.int .i64 0) (.slice none 0 0) (.int .i64 0) (.int .i64 0) (.slice none 0 0) hbe (b := (w.heap.size + 1)) (by omega)
    generalize put7 (w3.alloc (.cells #[.int .i64 P1, .slice p1 l1.length q1] 24)) (w.heap.size + 1) (.int .i64 0) (.slice none 0 0) (.int .i64 0) (.slice none 0 0) (.int .i64 0) (.int .i64 0) (.slice none 0 0) = Z at *
    refine bodyPost_ret (v := .tuple #[.agg #[.int .i64 0, .slice none 0 0, .int .i64 0, .slice none 0 0, .int .i64 0, .int .i64 0, .slice none 0 0], .int .i64 e1]) (by simp [results, Tryz.results55, go_sem, r0, r1, r2, r3, r4, r5, r6]) rfl ?_
    show TsPost _ w _ _
    rw [HM.out]
    exact ⟨_, _, _, rfl, rdst_no _, hBZ⟩
  have h1 : e1 = 0 := by omega
  subst h1
  have HQ1 := Lib.hid (perNot_ok (p := a.lf) HOA.out.lf (by rw [HB1.out]))
  rw [HB1.out] at HQ1
  have HPV1 : Hid (pvB P1 l1 = true) := HQ1.out.1
  obtain ⟨⟨x0, x1⟩, _⟩ := HX1.out
  go_wp2_with fail
  refine (HPR.out _ HI3.out.ra.2.1).mono ?_
  rintro e w4 ⟨v2, rfl, o2, hb4⟩
  obtain ⟨⟨⟨P2, l2⟩, e2⟩, hr2⟩ : ∃ r, perNot (a.rt.1, a.rt.2) = r := ⟨_, rfl⟩
  rw [hr2] at o2 ⊢
  have HB2 : Hid (perNot a.rt = ((P2, l2), e2)) := hr2
  clear hr2
  simp only at o2 ⊢
  obtain ⟨p2, q2, rfl⟩ := o2.form
  have HA4 := Lib.hid ((Below.refl w4.heap.size w4).alloc (Nat.le_refl _) (.cells #[.int .i64 P2, .slice p2 l2.length q2] 24))
  have HI4 : Hid (NtIn w a (.slice a1 a.lf.2.length n1) (.slice a2 a.rt.2.length n2) (.slice a3 a.l.length n3) (w4.alloc (.cells #[.int .i64 P2, .slice p2 l2.length q2] 24))) := (HI3.out.below hb4).below HA4.out
  have HR2 := Lib.hid (keepRd HA4.out o2)
  have HR1 : Hid (RdS (w4.alloc (.cells #[.int .i64 P2, .slice p2 l2.length q2] 24)) (.slice p1 l1.length q1) l1) := keepRd HA4.out (keepRd hb4 HO1.out)
  have HX1' : Hid (Box2 (w4.alloc (.cells #[.int .i64 P2, .slice p2 l2.length q2] 24)) w3.heap.size (.int .i64 P1) (.slice p1 l1.length q1)) := (HX1.out.below hb4).below HA4.out
  have HX2 : Hid (Box2 (w4.alloc (.cells #[.int .i64 P2, .slice p2 l2.length q2] 24)) w4.heap.size (.int .i64 P2) (.slice p2 l2.length q2)) := box2_new _ _ _ _
  clear hb4 o2 x0 x1 HX1 HI3 HO1 HA3
  clear A0 A1 A2 A3 A4 A5 A6 Z0 Z1 Z2 Z3 Z4 Z5 Z6 K0 K1 K2 K3 K4 K5 K6 hbe
  obtain ⟨⟨⟨A0, A1, A2, A3, A4, A5, A6⟩, _⟩, ⟨⟨Z0, Z1, Z2, Z3, Z4, Z5, Z6⟩, K0, K1, K2, K3, K4, K5, K6⟩, _, _, hbe⟩ := HI4.out
  by_cases h2 : e2 ≠ 0
  ·
    have HM := Lib.hid (two_right (op := perNot) (rest := (notRest a)) HGA.out HB1.out (by rw [HB2.out]) h2)
    have t1 : (e2 != 0) = true := by simpa using h2
    clear h2
    go_wp2
    change bodyPost _ _ _ _ _ (put7 (w4.alloc (.cells #[.int .i64 P2, .slice p2 l2.length q2] 24)) (w.heap.size + 1) (.int .i64 0) (.slice none 0 0) (.int .i64 0) (.slice none 0 0) (.int .i64 0) (.int .i64 0) (.slice none 0 0))
    obtain ⟨r0, r1, r2, r3, r4, r5, r6⟩ := put7_at (.int .i64 0) (.slice none 0 0) (.int .i64 0) (.slice none 0 0) (.int .i64 0) (.int .i64 0) (.slice none 0 0) Z0 Z1 Z2 Z3 Z4 Z5 Z6
    have hBZ := put7_below (.int .i64 0) (.slice none 0 0) (.int .i64 0) (.slice none 0 0) (.int .i64 0) (.int .i64 0) (.slice none 0 0) hbe (b := (w.heap.size + 1)) (by omega)
    generalize put7 (w4.alloc (.cells #[.int .i64 P2, .slice p2 l2.length q2] 24)) (w.heap.size + 1) (.int .i64 0) (.slice none 0 0) (.int .i64 0) (.slice none 0 0) (.int .i64 0) (.int .i64 0) (.slice none 0 0) = Z at *
    refine bodyPost_ret (v := .tuple #[.agg #[.int .i64 0, .slice none 0 0, .int .i64 0, .slice none 0 0, .int .i64 0, .int .i64 0, .slice none 0 0], .int .i64 e2]) (by simp [results, Tryz.results55, go_sem, r0, r1, r2, r3, r4, r5, r6]) rfl ?_
    show TsPost _ w _ _
    rw [HM.out]
    exact ⟨_, _, _, rfl, rdst_no _, hBZ⟩
  have h2 : e2 = 0 := by omega
  subst h2
  have HQ2 := Lib.hid (perNot_ok (p := a.rt) HOA.out.rt (by rw [HB2.out]))
  rw [HB2.out] at HQ2
  have HPV2 : Hid (pvB P2 l2 = true) := HQ2.out.1
  obtain ⟨⟨x0, x1⟩, _⟩ := HX1'.out
  obtain ⟨⟨y0, y1⟩, _⟩ := HX2.out
  obtain ⟨pe, hpe⟩ : ∃ pe, pairM P1 l1 P2 l2 = pe := ⟨_, rfl⟩
  have HPE := Lib.hid hpe
  obtain ⟨hrv1, hP11, hP12, _⟩ := rvB_of_pvB HPV1.out
  obtain ⟨hrv2, hP21, hP22, _⟩ := rvB_of_pvB HPV2.out
  have HPP := Lib.hid (fun W h h' => pair14_any P1 P2 (.slice p1 l1.length q1) (.slice p2 l2.length q2) l1 l2 W h h' hP11 hP12 hP21 hP22 (canon_of_rvB hrv1).2.2 (canon_of_rvB hrv2).2.2)
  rw [pairQ_err HPV1.out HPV2.out, hpe] at HPP
  clear hpe hrv1 hrv2 hP11 hP12 hP21 hP22
  go_wp2_with fail
  refine (HPP.out _ HR1.out HR2.out).mono ?_
  rintro e w5 ⟨rfl, hb5⟩
  have HI5 := Lib.hid (HI4.out.below hb5)
  have HS1 := Lib.hid (keepRd hb5 HR1.out)
  have HS2 := Lib.hid (keepRd hb5 HR2.out)
  have HY1 := Lib.hid (HX1'.out.below hb5)
  have HY2 := Lib.hid (HX2.out.below hb5)
  clear hb5 x0 x1 y0 y1 HX1' HX2 HR1 HR2 HI4 HA4
  clear A0 A1 A2 A3 A4 A5 A6 Z0 Z1 Z2 Z3 Z4 Z5 Z6 K0 K1 K2 K3 K4 K5 K6 hbe
  obtain ⟨⟨⟨A0, A1, A2, A3, A4, A5, A6⟩, _⟩, ⟨⟨Z0, Z1, Z2, Z3, Z4, Z5, Z6⟩, K0, K1, K2, K3, K4, K5, K6⟩, _, _, hbe⟩ := HI5.out
  by_cases h3 : pe ≠ 0
  ·
    have HM := Lib.hid (two_pair (op := perNot) (rest := (notRest a)) HGA.out HB1.out HB2.out HPE.out h3)
    have t1 : (pe != 0) = true := by simpa using h3
    clear h3
    go_wp2
    change bodyPost _ _ _ _ _ (put7 w5 (w.heap.size + 1) (.int .i64 0) (.slice none 0 0) (.int .i64 0) (.slice none 0 0) (.int .i64 0) (.int .i64 0) (.slice none 0 0))
    obtain ⟨r0, r1, r2, r3, r4, r5, r6⟩ := put7_at (.int .i64 0) (.slice none 0 0) (.int .i64 0) (.slice none 0 0) (.int .i64 0) (.int .i64 0) (.slice none 0 0) Z0 Z1 Z2 Z3 Z4 Z5 Z6
    have hBZ := put7_below (.int .i64 0) (.slice none 0 0) (.int .i64 0) (.slice none 0 0) (.int .i64 0) (.int .i64 0) (.slice none 0 0) hbe (b := (w.heap.size + 1)) (by omega)
    generalize put7 w5 (w.heap.size + 1) (.int .i64 0) (.slice none 0 0) (.int .i64 0) (.slice none 0 0) (.int .i64 0) (.int .i64 0) (.slice none 0 0) = Z at *
    refine bodyPost_ret (v := .tuple #[.agg #[.int .i64 0, .slice none 0 0, .int .i64 0, .slice none 0 0, .int .i64 0, .int .i64 0, .slice none 0 0], .int .i64 pe]) (by simp [results, Tryz.results55, go_sem, r0, r1, r2, r3, r4, r5, r6]) rfl ?_
    show TsPost _ w _ _
    rw [HM.out]
    exact ⟨_, _, _, rfl, rdst_no _, hBZ⟩
  have h3 : pe = 0 := by omega
  subst h3
  have HM0 := Lib.hid (two_rest (op := perNot) (rest := (notRest a)) HGA.out HB1.out HB2.out HPE.out)
  obtain ⟨⟨x0, x1⟩, _⟩ := HY1.out
  obtain ⟨⟨y0, y1⟩, _⟩ := HY2.out
  have hft := HOA.out.ft
  have hf1 := HOA.out.f1
  have ht1 := HOA.out.t1
  have HCN : Hid (Canon a.l ∧ (∀ s ∈ a.l, a.fr ≤ s.1 ∧ s.2 ≤ a.to) ∧ a.l.length ≤ 2000) := ⟨(canon_of_rvB HOA.out.l).1, HOA.out.ins, (canon_of_rvB HOA.out.l).2.2⟩
  have HGP := Lib.hid (gaps_ok a.l a.fr a.to HCN.out.1 HCN.out.2.1 hft)
  have HGL : Hid ((gapsL a.fr (a.l ++ [(a.to, a.to)])).length ≤ 2001) := by
    have := gaps_len a.fr (a.l ++ [(a.to, a.to)])
    have := HCN.out.2.2
    unfold Hid
    simp at *
    omega
  have HRS : Hid (notRest a (P1, l1) (P2, l2) = if 2000 < (gapsL a.fr (a.l ++ [(a.to, a.to)])).length then (noSt, 5) else (⟨(P1, l1), (P2, l2), a.fr, a.to, gapsL a.fr (a.l ++ [(a.to, a.to)])⟩, 0)) := rfl
  obtain ⟨G, hG⟩ : ∃ G, gapsL a.fr (a.l ++ [(a.to, a.to)]) = G := ⟨_, rfl⟩
  rw [hG] at HGP HGL HRS
  have HGE := Lib.hid hG
  clear hG
  have HPOS : Hid (PosSt ⟨(P1, l1), (P2, l2), a.fr, a.to, G⟩) := ⟨canon_pos (goodP_of_pvB HPV1.out).canon, canon_pos (goodP_of_pvB HPV2.out).canon, canon_pos HGP.out.1⟩
  have hb8 := (Below.refl w5.heap.size w5).alloc (Nat.le_refl _) (.cells #[.int .i64 P1, .slice p1 l1.length q1, .int .i64 P2, .slice p2 l2.length q2, .int .i64 a.fr, .int .i64 a.to, .slice none 0 0] 26)
  have HI8 := Lib.hid (HI5.out.below hb8)
  have HT1 := Lib.hid (keepRd hb8 HS1.out)
  have HT2 := Lib.hid (keepRd hb8 HS2.out)
  have HB8 : Hid (Set7 (w5.alloc (.cells #[.int .i64 P1, .slice p1 l1.length q1, .int .i64 P2, .slice p2 l2.length q2, .int .i64 a.fr, .int .i64 a.to, .slice none 0 0] 26)) w5.heap.size (.int .i64 P1) (.slice p1 l1.length q1) (.int .i64 P2) (.slice p2 l2.length q2) (.int .i64 a.fr) (.int .i64 a.to) (.slice none 0 0)) := set7_new _ _ _ _ _ _ _ _
  have HSZ8 : Hid ((w5.alloc (.cells #[.int .i64 P1, .slice p1 l1.length q1, .int .i64 P2, .slice p2 l2.length q2, .int .i64 a.fr, .int .i64 a.to, .slice none 0 0] 26)).heap.size = w5.heap.size + 1) := by unfold Hid; simp
  have HBL8 := Lib.hid hb8
  clear hb8
  obtain ⟨⟨A0, A1, A2, A3, A4, A5, A6⟩, _⟩ := HI8.out.xa
  by_cases hft2 : a.fr < a.to
  · have t1 : decide (a.fr < a.to) = true := by simpa using hft2
    have hb9 := (Below.refl (w5.alloc (.cells #[.int .i64 P1, .slice p1 l1.length q1, .int .i64 P2, .slice p2 l2.length q2, .int .i64 a.fr, .int .i64 a.to, .slice none 0 0] 26)).heap.size (w5.alloc (.cells #[.int .i64 P1, .slice p1 l1.length q1, .int .i64 P2, .slice p2 l2.length q2, .int .i64 a.fr, .int .i64 a.to, .slice none 0 0] 26))).alloc (Nat.le_refl _) (.cells #[.int .i64 a.fr, .int .i64 a.to] 40)
    have HI9 := Lib.hid (HI8.out.below hb9)
    have HON := Lib.hid ((own_one (w5.alloc (.cells #[.int .i64 P1, .slice p1 l1.length q1, .int .i64 P2, .slice p2 l2.length q2, .int .i64 a.fr, .int .i64 a.to, .slice none 0 0] 26)) (B := 0) (Nat.zero_le _) a.fr a.to).rd (by simp))
    rw [HSZ8.out] at HON
    have HBL9 := Lib.hid (keepBelow HBL8.out hb9)
    have HB9 := Lib.hid (HB8.out.below hb9)
    have HSZ9 : Hid (((w5.alloc (.cells #[.int .i64 P1, .slice p1 l1.length q1, .int .i64 P2, .slice p2 l2.length q2, .int .i64 a.fr, .int .i64 a.to, .slice none 0 0] 26)).alloc (.cells #[.int .i64 a.fr, .int .i64 a.to] 40)).heap.size = w5.heap.size + 1 + 1) := by unfold Hid; simp
    have HLI := Lib.hid (lists_any _ _ _ _ 2 _ HON.out HI9.out.ra.2.2 (by simp) (by have := HCN.out.2.2; omega) (by simp [Canon]; omega) HCN.out.1)
    have E6 := HI9.out.xa.1.2.2.2.2.2.2
    clear hb9
    go_wp2_with fail
    refine HLI.out.mono ?_
    rintro e w6 ⟨vL, L, rfl, oL, cL, hL, _, bL⟩
    have hLG : L = G := canon_ext cL HGP.out.1 fun x => by
      rw [hL x, HGP.out.2.2 x]
      simp only [inL, Bool.or_false]
      cases (decide (a.fr ≤ x) && decide (x < a.to)) <;> simp [ruleB]
    subst hLG
    have hB6 := keepBelow HBL9.out bL
    have H86 := Lib.hid (HB9.out.below bL)
    obtain ⟨pL, qL, rfl, _⟩ := oL.form
    rw [HSZ9.out] at oL
    have HOL := Lib.hid oL
    clear cL hL bL oL HLI HI9 HON HB9 HBL9 E6 A0 A1 A2 A3 A4 A5 A6 x0 x1 y0 y1
    obtain ⟨⟨c0, c1, c2, c3, c4, c5, c6⟩, f0, f1, f2, f3, f4, f5, f6⟩ := H86.out
    go_upto_region 15 with fail
    have hbY : Below w5.heap.size w5 (w6.setCell ⟨w5.heap.size, 6, none⟩ (.slice pL L.length qL)) := hB6.setCell (Nat.le_refl _) _
    have hY8 := set7_last H86.out (.slice pL L.length qL)
    have hOY := HOL.out.setCell (b := w5.heap.size) (o := 6) (by omega) (.slice pL L.length qL)
    generalize w6.setCell ⟨w5.heap.size, 6, none⟩ (.slice pL L.length qL) = Y at *
    have HIY := Lib.hid (HI5.out.below hbY)
    have HUY := Lib.hid (And.intro (keepRd hbY HS1.out) (And.intro (keepRd hbY HS2.out) (hOY.rd (by have := HGL.out; omega))))
    clear hbY hOY c0 c1 c2 c3 c4 c5 c6 f0 f1 f2 f3 f4 f5 f6 Z0 Z1 Z2 Z3 Z4 Z5 Z6 K0 K1 K2 K3 K4 K5 K6 hbe
    obtain ⟨⟨c0, c1, c2, c3, c4, c5, c6⟩, _⟩ := hY8
    obtain ⟨⟨Z0, Z1, Z2, Z3, Z4, Z5, Z6⟩, K0, K1, K2, K3, K4, K5, K6⟩ := HIY.out.xz
    have hbe := HIY.out.be
    by_cases hlen : 2000 < L.length
    · have HM : Hid (twoM perNot (notRest a) a = (noSt, 5)) := by unfold Hid; rw [HM0.out, HRS.out, if_pos hlen]
      go_wp2
      change bodyPost _ _ _ _ _ (put7 Y (w.heap.size + 1) (.int .i64 0) (.slice none 0 0) (.int .i64 0) (.slice none 0 0) (.int .i64 0) (.int .i64 0) (.slice none 0 0))
      obtain ⟨r0, r1, r2, r3, r4, r5, r6⟩ := put7_at (.int .i64 0) (.slice none 0 0) (.int .i64 0) (.slice none 0 0) (.int .i64 0) (.int .i64 0) (.slice none 0 0) Z0 Z1 Z2 Z3 Z4 Z5 Z6
      have hBZ := put7_below (.int .i64 0) (.slice none 0 0) (.int .i64 0) (.slice none 0 0) (.int .i64 0) (.int .i64 0) (.slice none 0 0) hbe (b := (w.heap.size + 1)) (by omega)
      generalize put7 Y (w.heap.size + 1) (.int .i64 0) (.slice none 0 0) (.int .i64 0) (.slice none 0 0) (.int .i64 0) (.int .i64 0) (.slice none 0 0) = Z at *
      refine bodyPost_ret (v := .tuple #[.agg #[.int .i64 0, .slice none 0 0, .int .i64 0, .slice none 0 0, .int .i64 0, .int .i64 0, .slice none 0 0], .int .i64 5]) (by simp [results, Tryz.results55, go_sem, r0, r1, r2, r3, r4, r5, r6]) rfl ?_
      show TsPost _ w _ _
      rw [HM.out]
      exact ⟨_, _, _, rfl, rdst_no _, hBZ⟩
    · have HM : Hid (twoM perNot (notRest a) a = (⟨(P1, l1), (P2, l2), a.fr, a.to, L⟩, 0)) := by unfold Hid; rw [HM0.out, HRS.out, if_neg hlen]
      have HRD : Hid (RdSt Y ⟨(P1, l1), (P2, l2), a.fr, a.to, L⟩ (.slice p1 l1.length q1) (.slice p2 l2.length q2) (.slice pL L.length qL)) := HUY.out
      go_wp2
      change bodyPost _ _ _ _ _ (put7 Y (w.heap.size + 1) (.int .i64 P1) (.slice p1 l1.length q1) (.int .i64 P2) (.slice p2 l2.length q2) (.int .i64 a.fr) (.int .i64 a.to) (.slice pL L.length qL))
      obtain ⟨r0, r1, r2, r3, r4, r5, r6⟩ := put7_at (.int .i64 P1) (.slice p1 l1.length q1) (.int .i64 P2) (.slice p2 l2.length q2) (.int .i64 a.fr) (.int .i64 a.to) (.slice pL L.length qL) Z0 Z1 Z2 Z3 Z4 Z5 Z6
      have hBZ := put7_below (.int .i64 P1) (.slice p1 l1.length q1) (.int .i64 P2) (.slice p2 l2.length q2) (.int .i64 a.fr) (.int .i64 a.to) (.slice pL L.length qL) hbe (b := (w.heap.size + 1)) (by omega)
      have hRZ := (HRD.out).put (.int .i64 P1) (.slice p1 l1.length q1) (.int .i64 P2) (.slice p2 l2.length q2) (.int .i64 a.fr) (.int .i64 a.to) (.slice pL L.length qL) HPOS.out HIY.out.zz
      generalize put7 Y (w.heap.size + 1) (.int .i64 P1) (.slice p1 l1.length q1) (.int .i64 P2) (.slice p2 l2.length q2) (.int .i64 a.fr) (.int .i64 a.to) (.slice pL L.length qL) = Z at *
      refine bodyPost_ret (v := .tuple #[.agg #[.int .i64 P1, .slice p1 l1.length q1, .int .i64 P2, .slice p2 l2.length q2, .int .i64 a.fr, .int .i64 a.to, .slice pL L.length qL], .int .i64 0]) (by simp [results, Tryz.results55, go_sem, r0, r1, r2, r3, r4, r5, r6]) rfl ?_
      show TsPost _ w _ _
      rw [HM.out]
      exact ⟨_, _, _, rfl, hRZ, hBZ⟩
  · have t1 : decide (a.fr < a.to) = false := by simpa using hft2
    have hG0 : G = [] := canon_ext HGP.out.1 trivial fun x => by
      rw [HGP.out.2.2 x, show inL [] x = false from rfl, Bool.and_eq_false_iff, Bool.and_eq_false_iff]
      left
      by_cases h : a.fr ≤ x
      · exact .inr (by simp; omega)
      · exact .inl (by simpa using h)
    subst hG0
    have HM : Hid (twoM perNot (notRest a) a = (⟨(P1, l1), (P2, l2), a.fr, a.to, []⟩, 0)) := by unfold Hid; rw [HM0.out, HRS.out, if_neg (by simp)]
    have HRD : Hid (RdSt (w5.alloc (.cells #[.int .i64 P1, .slice p1 l1.length q1, .int .i64 P2, .slice p2 l2.length q2, .int .i64 a.fr, .int .i64 a.to, .slice none 0 0] 26)) ⟨(P1, l1), (P2, l2), a.fr, a.to, []⟩ (.slice p1 l1.length q1) (.slice p2 l2.length q2) (.slice none 0 0)) := ⟨HT1.out, HT2.out, rd_none _⟩
    clear Z0 Z1 Z2 Z3 Z4 Z5 Z6 K0 K1 K2 K3 K4 K5 K6 hbe
    obtain ⟨⟨Z0, Z1, Z2, Z3, Z4, Z5, Z6⟩, K0, K1, K2, K3, K4, K5, K6⟩ := HI8.out.xz
    have hbe := HI8.out.be
    go_wp2
    change bodyPost _ _ _ _ _ (put7 (w5.alloc (.cells #[.int .i64 P1, .slice p1 l1.length q1, .int .i64 P2, .slice p2 l2.length q2, .int .i64 a.fr, .int .i64 a.to, .slice none 0 0] 26)) (w.heap.size + 1) (.int .i64 P1) (.slice p1 l1.length q1) (.int .i64 P2) (.slice p2 l2.length q2) (.int .i64 a.fr) (.int .i64 a.to) (.slice none 0 0))
    obtain ⟨r0, r1, r2, r3, r4, r5, r6⟩ := put7_at (.int .i64 P1) (.slice p1 l1.length q1) (.int .i64 P2) (.slice p2 l2.length q2) (.int .i64 a.fr) (.int .i64 a.to) (.slice none 0 0) Z0 Z1 Z2 Z3 Z4 Z5 Z6
    have hBZ := put7_below (.int .i64 P1) (.slice p1 l1.length q1) (.int .i64 P2) (.slice p2 l2.length q2) (.int .i64 a.fr) (.int .i64 a.to) (.slice none 0 0) hbe (b := (w.heap.size + 1)) (by omega)
    have hRZ := (HRD.out).put (.int .i64 P1) (.slice p1 l1.length q1) (.int .i64 P2) (.slice p2 l2.length q2) (.int .i64 a.fr) (.int .i64 a.to) (.slice none 0 0) HPOS.out HI8.out.zz
    generalize put7 (w5.alloc (.cells #[.int .i64 P1, .slice p1 l1.length q1, .int .i64 P2, .slice p2 l2.length q2, .int .i64 a.fr, .int .i64 a.to, .slice none 0 0] 26)) (w.heap.size + 1) (.int .i64 P1) (.slice p1 l1.length q1) (.int .i64 P2) (.slice p2 l2.length q2) (.int .i64 a.fr) (.int .i64 a.to) (.slice none 0 0) = Z at *
    refine bodyPost_ret (v := .tuple #[.agg #[.int .i64 P1, .slice p1 l1.length q1, .int .i64 P2, .slice p2 l2.length q2, .int .i64 a.fr, .int .i64 a.to, .slice none 0 0], .int .i64 0]) (by simp [results, Tryz.results55, go_sem, r0, r1, r2, r3, r4, r5, r6]) rfl ?_
    show TsPost _ w _ _
    rw [HM.out]
    exact ⟨_, _, _, rfl, hRZ, hBZ⟩
end Go.Proofs.YtnjpceocnldlfaaGreat
/- The reference's Move of a set. -/
namespace Go.Proofs.YtnjpceocnldlfaaGreat
open Go.RowKit Wk

set_option maxRecDepth 100000 in
set_option maxHeartbeats 8000000 in
theorem move14_any (a : St) (n : Int) (al ar av : Value) (w : World) (ha : RdSt w a al ar av) (hn1 : -9223372036854775808 ≤ n) (hn2 : n ≤ 9223372036854775807) :
    Calls Tryz.prog 57 #[.agg #[.int .i64 a.lf.1, al, .int .i64 a.rt.1, ar, .int .i64 a.fr, .int .i64 a.to, av], .int .i64 n] w (TsPost (setMove n a) w) := by
  have HVA := Lib.hid (fun W h => valid14_any a al ar av W h)
  have HPL := Lib.hid (fun W h => rMovePer a.lf.1 n al a.lf.2 W h)
  have HPR := Lib.hid (fun W h => rMovePer a.rt.1 n ar a.rt.2 W h)
  have HRA := Lib.hid ha
  obtain ⟨a1, n1, e1⟩ := ha.1.form
  obtain ⟨a2, n2, e2⟩ := ha.2.1.form
  obtain ⟨a3, n3, e3⟩ := ha.2.2.form
  subst e1 e2 e3
  obtain ⟨W, hWe⟩ : ∃ W, (w.alloc (.cells #[.int .i64 a.lf.1, .slice a1 a.lf.2.length n1, .int .i64 a.rt.1, .slice a2 a.rt.2.length n2, .int .i64 a.fr, .int .i64 a.to, .slice a3 a.l.length n3] 26)).alloc (.cells #[.int .i64 0, .slice none 0 0, .int .i64 0, .slice none 0 0, .int .i64 0, .int .i64 0, .slice none 0 0] 26) = W := ⟨_, rfl⟩
  have hW : Below w.heap.size w W := by rw [← hWe]; exact ((Below.refl _ w).alloc (Nat.le_refl _) _).alloc (by simp) _
  have HI : Hid (NtIn w a (.slice a1 a.lf.2.length n1) (.slice a2 a.rt.2.length n2) (.slice a3 a.l.length n3) W) := by
    refine ⟨?_, ?_, ?_, keepSt hW HRA.out, hW⟩
    · rw [← hWe]
      refine ⟨⟨?_, ?_, ?_, ?_, ?_, ?_, ?_⟩, ?_, ?_, ?_, ?_, ?_, ?_, ?_⟩ <;> simp [go_sem]
    · rw [← hWe]
      refine ⟨⟨?_, ?_, ?_, ?_, ?_, ?_, ?_⟩, ?_, ?_, ?_, ?_, ?_, ?_, ?_⟩ <;> simp [go_sem]
    · rw [← hWe]
      have := zero7_new (w.alloc (.cells #[.int .i64 a.lf.1, .slice a1 a.lf.2.length n1, .int .i64 a.rt.1, .slice a2 a.rt.2.length n2, .int .i64 a.fr, .int .i64 a.to, .slice a3 a.l.length n3] 26))
      simpa using this
  have HE := Lib.hid hWe
  clear hWe hW ha HRA
  obtain ⟨⟨⟨A0, A1, A2, A3, A4, A5, A6⟩, _⟩, ⟨⟨Z0, Z1, Z2, Z3, Z4, Z5, Z6⟩, K0, K1, K2, K3, K4, K5, K6⟩, _, _, hbe⟩ := HI.out
  obtain ⟨ga, hga⟩ : ∃ g, VB a = g := ⟨_, rfl⟩
  rw [hga] at HVA
  have HGA := Lib.hid hga
  clear hga
  have HMO : Hid (setMove n a = twoM (perMove n) (moveRest n a) a) := rfl
  rw [HMO.out]
  clear HMO
  go_enter Tryz.func57, Tryz.ntmps57
  go_wp2_with fail
  rw [HE.out]
  go_wp2_with fail
  refine (HVA.out _ HI.out.ra).mono ?_
  rintro e w1 ⟨rfl, hb1⟩
  have HI1 := Lib.hid (HI.out.below hb1)
  clear hb1 HE
  clear A0 A1 A2 A3 A4 A5 A6 Z0 Z1 Z2 Z3 Z4 Z5 Z6 K0 K1 K2 K3 K4 K5 K6 hbe
  obtain ⟨⟨⟨A0, A1, A2, A3, A4, A5, A6⟩, _⟩, ⟨⟨Z0, Z1, Z2, Z3, Z4, Z5, Z6⟩, K0, K1, K2, K3, K4, K5, K6⟩, _, _, hbe⟩ := HI1.out
  cases ga with
  | false =>
    have HM := Lib.hid (two_bad (op := (perMove n)) (rest := (moveRest n a)) HGA.out)
    go_wp2
    change bodyPost _ _ _ _ _ (put7 w1 (w.heap.size + 1) (.int .i64 0) (.slice none 0 0) (.int .i64 0) (.slice none 0 0) (.int .i64 0) (.int .i64 0) (.slice none 0 0))
    obtain ⟨r0, r1, r2, r3, r4, r5, r6⟩ := put7_at (.int .i64 0) (.slice none 0 0) (.int .i64 0) (.slice none 0 0) (.int .i64 0) (.int .i64 0) (.slice none 0 0) Z0 Z1 Z2 Z3 Z4 Z5 Z6
    have hBZ := put7_below (.int .i64 0) (.slice none 0 0) (.int .i64 0) (.slice none 0 0) (.int .i64 0) (.int .i64 0) (.slice none 0 0) hbe (b := (w.heap.size + 1)) (by omega)
    generalize put7 w1 (w.heap.size + 1) (.int .i64 0) (.slice none 0 0) (.int .i64 0) (.slice none 0 0) (.int .i64 0) (.int .i64 0) (.slice none 0 0) = Z at *
    refine bodyPost_ret (v := .tuple #[.agg #[.int .i64 0, .slice none 0 0, .int .i64 0, .slice none 0 0, .int .i64 0, .int .i64 0, .slice none 0 0], .int .i64 1]) (by simp [results, Tryz.results57, go_sem, r0, r1, r2, r3, r4, r5, r6]) rfl ?_
    show TsPost _ w _ _
    rw [HM.out]
    exact ⟨_, _, _, rfl, rdst_no _, hBZ⟩
  | true =>
  have HOA := Lib.hid (okS_of_VB HGA.out)
  go_wp2_with fail
  refine (HPL.out _ HI1.out.ra.1).mono ?_
  rintro e w3 ⟨v1, rfl, o1, hb3⟩
  obtain ⟨⟨⟨P1, l1⟩, e1⟩, hr1⟩ : ∃ r, (perMove n) (a.lf.1, a.lf.2) = r := ⟨_, rfl⟩
  rw [hr1] at o1 ⊢
  have HB1 : Hid ((perMove n) a.lf = ((P1, l1), e1)) := hr1
  clear hr1
  simp only at o1 ⊢
  obtain ⟨p1, q1, rfl⟩ := o1.form
  have HA3 := Lib.hid ((Below.refl w3.heap.size w3).alloc (Nat.le_refl _) (.cells #[.int .i64 P1, .slice p1 l1.length q1] 24))
  have HI3 : Hid (NtIn w a (.slice a1 a.lf.2.length n1) (.slice a2 a.rt.2.length n2) (.slice a3 a.l.length n3) (w3.alloc (.cells #[.int .i64 P1, .slice p1 l1.length q1] 24))) := (HI1.out.below hb3).below HA3.out
  have HO1 := Lib.hid (keepRd HA3.out o1)
  have HX1 : Hid (Box2 (w3.alloc (.cells #[.int .i64 P1, .slice p1 l1.length q1] 24)) w3.heap.size (.int .i64 P1) (.slice p1 l1.length q1)) := box2_new _ _ _ _
  clear hb3 o1
  clear A0 A1 A2 A3 A4 A5 A6 Z0 Z1 Z2 Z3 Z4 Z5 Z6 K0 K1 K2 K3 K4 K5 K6 hbe
  obtain ⟨⟨⟨A0, A1, A2, A3, A4, A5, A6⟩, _⟩, ⟨⟨Z0, Z1, Z2, Z3, Z4, Z5, Z6⟩, K0, K1, K2, K3, K4, K5, K6⟩, _, _, hbe⟩ := HI3.out
  by_cases h1 : e1 ≠ 0
  ·
    have HM := Lib.hid (two_left (op := (perMove n)) (rest := (moveRest n a)) HGA.out (by rw [HB1.out]) h1)
    have t1 : (e1 != 0) = true := by simpa using h1
    clear h1
    go_wp2
    change bodyPost _ _ _ _ _ (put7 (w3.alloc (.cells #[.int .i64 P1, .slice p1 l1.length q1] 24)) (w.heap.size + 1) (.int .i64 0) (.slice none 0 0) (.int .i64 0) (.slice none 0 0) (.int .i64 0) (.int .i64 0) (.slice none 0 0))
    obtain ⟨r0, r1, r2, r3, r4, r5, r6⟩ := put7_at (.int .i64 0) (.slice none 0 0) (.int .i64 0) (.slice none 0 0) (.int .i64 0) (.int .i64 0) (.slice none 0 0) Z0 Z1 Z2 Z3 Z4 Z5 Z6
    have hBZ := put7_below (.int .i64 0) (.slice none 0 0) (.int .i64 0) (.slice none 0 0) (.int .i64 0) (.int .i64 0) (.slice none 0 0) hbe (b := (w.heap.size + 1)) (by omega)
    generalize put7 (w3.alloc (.cells #[.int .i64 P1, .slice p1 l1.length q1] 24)) (w.heap.size + 1) (.int .i64 0) (.slice none 0 0) (.int .i64 0) (.slice none 0 0) (.int .i64 0) (.int .i64 0) (.slice none 0 0) = Z at *
    refine bodyPost_ret (v := .tuple #[.agg #[.int .i64 0, .slice none 0 0, .int .i64 0, .slice none 0 0, .int .i64 0, .int .i64 0, .slice none 0 0], .int .i64 e1]) (by simp [results, Tryz.results57, go_sem, r0, r1, r2, r3, r4, r5, r6]) rfl ?_
    show TsPost _ w _ _
    rw [HM.out]
    exact ⟨_, _, _, rfl, rdst_no _, hBZ⟩
  have h1 : e1 = 0 := by omega
  subst h1
  have HQ1 := Lib.hid (perMove_ok (p := a.lf) HOA.out.lf (by rw [HB1.out]))
  rw [HB1.out] at HQ1
  have HPV1 : Hid (pvB P1 l1 = true) := HQ1.out.1
  obtain ⟨⟨x0, x1⟩, _⟩ := HX1.out
  go_wp2_with fail
  refine (HPR.out _ HI3.out.ra.2.1).mono ?_
  rintro e w4 ⟨v2, rfl, o2, hb4⟩
  obtain ⟨⟨⟨P2, l2⟩, e2⟩, hr2⟩ : ∃ r, (perMove n) (a.rt.1, a.rt.2) = r := ⟨_, rfl⟩
  rw [hr2] at o2 ⊢
  have HB2 : Hid ((perMove n) a.rt = ((P2, l2), e2)) := hr2
  clear hr2
  simp only at o2 ⊢
  obtain ⟨p2, q2, rfl⟩ := o2.form
  have HA4 := Lib.hid ((Below.refl w4.heap.size w4).alloc (Nat.le_refl _) (.cells #[.int .i64 P2, .slice p2 l2.length q2] 24))
  have HI4 : Hid (NtIn w a (.slice a1 a.lf.2.length n1) (.slice a2 a.rt.2.length n2) (.slice a3 a.l.length n3) (w4.alloc (.cells #[.int .i64 P2, .slice p2 l2.length q2] 24))) := (HI3.out.below hb4).below HA4.out
  have HR2 := Lib.hid (keepRd HA4.out o2)
  have HR1 : Hid (RdS (w4.alloc (.cells #[.int .i64 P2, .slice p2 l2.length q2] 24)) (.slice p1 l1.length q1) l1) := keepRd HA4.out (keepRd hb4 HO1.out)
  have HX1' : Hid (Box2 (w4.alloc (.cells #[.int .i64 P2, .slice p2 l2.length q2] 24)) w3.heap.size (.int .i64 P1) (.slice p1 l1.length q1)) := (HX1.out.below hb4).below HA4.out
  have HX2 : Hid (Box2 (w4.alloc (.cells #[.int .i64 P2, .slice p2 l2.length q2] 24)) w4.heap.size (.int .i64 P2) (.slice p2 l2.length q2)) := box2_new _ _ _ _
  clear hb4 o2 x0 x1 HX1 HI3 HO1 HA3
  clear A0 A1 A2 A3 A4 A5 A6 Z0 Z1 Z2 Z3 Z4 Z5 Z6 K0 K1 K2 K3 K4 K5 K6 hbe
  obtain ⟨⟨⟨A0, A1, A2, A3, A4, A5, A6⟩, _⟩, ⟨⟨Z0, Z1, Z2, Z3, Z4, Z5, Z6⟩, K0, K1, K2, K3, K4, K5, K6⟩, _, _, hbe⟩ := HI4.out
  by_cases h2 : e2 ≠ 0
  ·
    have HM := Lib.hid (two_right (op := (perMove n)) (rest := (moveRest n a)) HGA.out HB1.out (by rw [HB2.out]) h2)
    have t1 : (e2 != 0) = true := by simpa using h2
    clear h2
    go_wp2
    change bodyPost _ _ _ _ _ (put7 (w4.alloc (.cells #[.int .i64 P2, .slice p2 l2.length q2] 24)) (w.heap.size + 1) (.int .i64 0) (.slice none 0 0) (.int .i64 0) (.slice none 0 0) (.int .i64 0) (.int .i64 0) (.slice none 0 0))
    obtain ⟨r0, r1, r2, r3, r4, r5, r6⟩ := put7_at (.int .i64 0) (.slice none 0 0) (.int .i64 0) (.slice none 0 0) (.int .i64 0) (.int .i64 0) (.slice none 0 0) Z0 Z1 Z2 Z3 Z4 Z5 Z6
    have hBZ := put7_below (.int .i64 0) (.slice none 0 0) (.int .i64 0) (.slice none 0 0) (.int .i64 0) (.int .i64 0) (.slice none 0 0) hbe (b := (w.heap.size + 1)) (by omega)
    generalize put7 (w4.alloc (.cells #[.int .i64 P2, .slice p2 l2.length q2] 24)) (w.heap.size + 1) (.int .i64 0) (.slice none 0 0) (.int .i64 0) (.slice none 0 0) (.int .i64 0) (.int .i64 0) (.slice none 0 0) = Z at *
    refine bodyPost_ret (v := .tuple #[.agg #[.int .i64 0, .slice none 0 0, .int .i64 0, .slice none 0 0, .int .i64 0, .int .i64 0, .slice none 0 0], .int .i64 e2]) (by simp [results, Tryz.results57, go_sem, r0, r1, r2, r3, r4, r5, r6]) rfl ?_
    show TsPost _ w _ _
    rw [HM.out]
    exact ⟨_, _, _, rfl, rdst_no _, hBZ⟩
  have h2 : e2 = 0 := by omega
  subst h2
  have HQ2 := Lib.hid (perMove_ok (p := a.rt) HOA.out.rt (by rw [HB2.out]))
  rw [HB2.out] at HQ2
  have HPV2 : Hid (pvB P2 l2 = true) := HQ2.out.1
  obtain ⟨⟨x0, x1⟩, _⟩ := HX1'.out
  obtain ⟨⟨y0, y1⟩, _⟩ := HX2.out
  obtain ⟨pe, hpe⟩ : ∃ pe, pairM P1 l1 P2 l2 = pe := ⟨_, rfl⟩
  have HPE := Lib.hid hpe
  obtain ⟨hrv1, hP11, hP12, _⟩ := rvB_of_pvB HPV1.out
  obtain ⟨hrv2, hP21, hP22, _⟩ := rvB_of_pvB HPV2.out
  have HPP := Lib.hid (fun W h h' => pair14_any P1 P2 (.slice p1 l1.length q1) (.slice p2 l2.length q2) l1 l2 W h h' hP11 hP12 hP21 hP22 (canon_of_rvB hrv1).2.2 (canon_of_rvB hrv2).2.2)
  rw [pairQ_err HPV1.out HPV2.out, hpe] at HPP
  clear hpe hrv1 hrv2 hP11 hP12 hP21 hP22
  go_wp2_with fail
  refine (HPP.out _ HR1.out HR2.out).mono ?_
  rintro e w5 ⟨rfl, hb5⟩
  have HI5 := Lib.hid (HI4.out.below hb5)
  have HS1 := Lib.hid (keepRd hb5 HR1.out)
  have HS2 := Lib.hid (keepRd hb5 HR2.out)
  have HY1 := Lib.hid (HX1'.out.below hb5)
  have HY2 := Lib.hid (HX2.out.below hb5)
  clear hb5 x0 x1 y0 y1 HX1' HX2 HR1 HR2 HI4 HA4
  clear A0 A1 A2 A3 A4 A5 A6 Z0 Z1 Z2 Z3 Z4 Z5 Z6 K0 K1 K2 K3 K4 K5 K6 hbe
  obtain ⟨⟨⟨A0, A1, A2, A3, A4, A5, A6⟩, _⟩, ⟨⟨Z0, Z1, Z2, Z3, Z4, Z5, Z6⟩, K0, K1, K2, K3, K4, K5, K6⟩, _, _, hbe⟩ := HI5.out
  by_cases h3 : pe ≠ 0
  ·
    have HM := Lib.hid (two_pair (op := (perMove n)) (rest := (moveRest n a)) HGA.out HB1.out HB2.out HPE.out h3)
    have t1 : (pe != 0) = true := by simpa using h3
    clear h3
    go_wp2
    change bodyPost _ _ _ _ _ (put7 w5 (w.heap.size + 1) (.int .i64 0) (.slice none 0 0) (.int .i64 0) (.slice none 0 0) (.int .i64 0) (.int .i64 0) (.slice none 0 0))
    obtain ⟨r0, r1, r2, r3, r4, r5, r6⟩ := put7_at (.int .i64 0) (.slice none 0 0) (.int .i64 0) (.slice none 0 0) (.int .i64 0) (.int .i64 0) (.slice none 0 0) Z0 Z1 Z2 Z3 Z4 Z5 Z6
    have hBZ := put7_below (.int .i64 0) (.slice none 0 0) (.int .i64 0) (.slice none 0 0) (.int .i64 0) (.int .i64 0) (.slice none 0 0) hbe (b := (w.heap.size + 1)) (by omega)
    generalize put7 w5 (w.heap.size + 1) (.int .i64 0) (.slice none 0 0) (.int .i64 0) (.slice none 0 0) (.int .i64 0) (.int .i64 0) (.slice none 0 0) = Z at *
    refine bodyPost_ret (v := .tuple #[.agg #[.int .i64 0, .slice none 0 0, .int .i64 0, .slice none 0 0, .int .i64 0, .int .i64 0, .slice none 0 0], .int .i64 pe]) (by simp [results, Tryz.results57, go_sem, r0, r1, r2, r3, r4, r5, r6]) rfl ?_
    show TsPost _ w _ _
    rw [HM.out]
    exact ⟨_, _, _, rfl, rdst_no _, hBZ⟩
  have h3 : pe = 0 := by omega
  subst h3
  have HM0 := Lib.hid (two_rest (op := (perMove n)) (rest := (moveRest n a)) HGA.out HB1.out HB2.out HPE.out)
  obtain ⟨⟨x0, x1⟩, _⟩ := HY1.out
  obtain ⟨⟨y0, y1⟩, _⟩ := HY2.out
  have hft := HOA.out.ft
  have hf1 := HOA.out.f1
  have ht1 := HOA.out.t1
  have hnb : -4398046511104 ≤ n ∧ n ≤ 4398046511104 := HQ1.out.2.2
  have HIN : Hid (∀ i x y, a.l.getD i (0, 0) = (x, y) → i < a.l.length → -4398046511104 ≤ x ∧ x < y ∧ y ≤ 4398046511104) := fun i x y h hi => by
    have h1 := HOA.out.ins _ (mem_of_getD h hi)
    have h2 := canon_pos (canon_of_rvB HOA.out.l).1 _ (mem_of_getD h hi)
    simp only at h1 h2
    omega
  have HLE : Hid (a.l.length ≤ 2000) := (canon_of_rvB HOA.out.l).2.2
  have HRS : Hid (moveRest n a (P1, l1) (P2, l2) = if pureB a = true then (pureF (P1, l1), 0) else if lineB (a.fr + n) = false ∨ lineB (a.to + n) = false then (noSt, 9) else (⟨(P1, l1), (P2, l2), a.fr + n, a.to + n, a.l.map (shf n)⟩, 0)) := rfl
  have HPOS : Hid (PosSt ⟨(P1, l1), (P2, l2), a.fr + n, a.to + n, a.l.map (shf n)⟩) := ⟨canon_pos (goodP_of_pvB HPV1.out).canon, canon_pos (goodP_of_pvB HPV2.out).canon, fun s hs => by
    obtain ⟨r, hr, rfl⟩ := List.mem_map.1 hs
    have := canon_pos (canon_of_rvB HOA.out.l).1 r hr
    simp only [shf]
    omega⟩
  have HPOP : Hid (PosSt (pureF (P1, l1))) := ⟨canon_pos (goodP_of_pvB HPV1.out).canon, canon_pos (goodP_of_pvB HPV1.out).canon, fun s hs => by simp [pureF] at hs⟩
  have s1 : IntKind.i64.wrap (a.fr + n) = a.fr + n := by rw [IntKind.wrap_i64]; omega
  have s2 : IntKind.i64.wrap (a.to + n) = a.to + n := by rw [IntKind.wrap_i64]; omega
  have HPU := Lib.hid (fun W h => rpure14_any a (.slice a1 a.lf.2.length n1) (.slice a2 a.rt.2.length n2) (.slice a3 a.l.length n3) W h HOA.out.lf HOA.out.rt)
  have HPR2 := Lib.hid (fun W h => pure14_any P1 (.slice p1 l1.length q1) l1 W h)
  have HL1 := Lib.hid (fun W => line10_any (a.fr + n) W)
  have HL2 := Lib.hid (fun W => line10_any (a.to + n) W)
  obtain ⟨pb, hpb⟩ : ∃ b, pureB a = b := ⟨_, rfl⟩
  rw [hpb] at HPU HRS
  clear hpb
  go_wp2_with fail
  refine (HPU.out _ HI5.out.ra).mono ?_
  rintro e w6 ⟨rfl, hb6⟩
  have HI6 := Lib.hid (HI5.out.below hb6)
  have HS16 := Lib.hid (keepRd hb6 HS1.out)
  have HS26 := Lib.hid (keepRd hb6 HS2.out)
  have HY16 := Lib.hid (HY1.out.below hb6)
  have HY26 := Lib.hid (HY2.out.below hb6)
  clear hb6 x0 x1 y0 y1
  clear A0 A1 A2 A3 A4 A5 A6 Z0 Z1 Z2 Z3 Z4 Z5 Z6 K0 K1 K2 K3 K4 K5 K6 hbe
  obtain ⟨⟨⟨A0, A1, A2, A3, A4, A5, A6⟩, _⟩, ⟨⟨Z0, Z1, Z2, Z3, Z4, Z5, Z6⟩, K0, K1, K2, K3, K4, K5, K6⟩, _, _, hbe⟩ := HI6.out
  obtain ⟨⟨x0, x1⟩, _⟩ := HY16.out
  obtain ⟨⟨y0, y1⟩, _⟩ := HY26.out
  cases pb with
  | true =>
    have HM : Hid (twoM (perMove n) (moveRest n a) a = (pureF (P1, l1), 0)) := by unfold Hid; rw [HM0.out, HRS.out, if_pos rfl]
    go_wp2_with fail
    refine (HPR2.out _ HS16.out).mono ?_
    rintro e w7 ⟨rfl, hb7⟩
    have HI7 := Lib.hid (HI6.out.below hb7)
    have HS17 := Lib.hid (keepRd hb7 HS16.out)
    have HS27 := Lib.hid (keepRd hb7 HS26.out)
    have HY17 := Lib.hid (HY16.out.below hb7)
    have HY27 := Lib.hid (HY26.out.below hb7)
    clear hb7 x0 x1 y0 y1
    clear A0 A1 A2 A3 A4 A5 A6 Z0 Z1 Z2 Z3 Z4 Z5 Z6 K0 K1 K2 K3 K4 K5 K6 hbe
    obtain ⟨⟨⟨A0, A1, A2, A3, A4, A5, A6⟩, _⟩, ⟨⟨Z0, Z1, Z2, Z3, Z4, Z5, Z6⟩, K0, K1, K2, K3, K4, K5, K6⟩, _, _, hbe⟩ := HI7.out
    obtain ⟨⟨x0, x1⟩, _⟩ := HY17.out
    obtain ⟨⟨y0, y1⟩, _⟩ := HY27.out
    have HRD : Hid (RdSt w7 (pureF (P1, l1)) (.slice p1 l1.length q1) (.slice p1 l1.length q1) (.slice none 0 0)) := ⟨HS17.out, HS17.out, rd_none _⟩
    go_wp2
    change bodyPost _ _ _ _ _ (put7 w7 (w.heap.size + 1) (.int .i64 P1) (.slice p1 l1.length q1) (.int .i64 P1) (.slice p1 l1.length q1) (.int .i64 0) (.int .i64 0) (.slice none 0 0))
    obtain ⟨r0, r1, r2, r3, r4, r5, r6⟩ := put7_at (.int .i64 P1) (.slice p1 l1.length q1) (.int .i64 P1) (.slice p1 l1.length q1) (.int .i64 0) (.int .i64 0) (.slice none 0 0) Z0 Z1 Z2 Z3 Z4 Z5 Z6
    have hBZ := put7_below (.int .i64 P1) (.slice p1 l1.length q1) (.int .i64 P1) (.slice p1 l1.length q1) (.int .i64 0) (.int .i64 0) (.slice none 0 0) hbe (b := (w.heap.size + 1)) (by omega)
    have hRZ := (HRD.out).put (.int .i64 P1) (.slice p1 l1.length q1) (.int .i64 P1) (.slice p1 l1.length q1) (.int .i64 0) (.int .i64 0) (.slice none 0 0) HPOP.out HI7.out.zz
    generalize put7 w7 (w.heap.size + 1) (.int .i64 P1) (.slice p1 l1.length q1) (.int .i64 P1) (.slice p1 l1.length q1) (.int .i64 0) (.int .i64 0) (.slice none 0 0) = Z at *
    refine bodyPost_ret (v := .tuple #[.agg #[.int .i64 P1, .slice p1 l1.length q1, .int .i64 P1, .slice p1 l1.length q1, .int .i64 0, .int .i64 0, .slice none 0 0], .int .i64 0]) (by simp [results, Tryz.results57, go_sem, r0, r1, r2, r3, r4, r5, r6]) rfl ?_
    show TsPost _ w _ _
    rw [HM.out]
    exact ⟨_, _, _, rfl, hRZ, hBZ⟩
  | false =>
  cases g1 : lineB (a.fr + n) with
  | false =>
    rw [g1] at HL1
    have HM : Hid (twoM (perMove n) (moveRest n a) a = (noSt, 9)) := by unfold Hid; rw [HM0.out, HRS.out, if_neg (by simp), if_pos (.inl g1)]
    clear g1
    go_wp2_with fail
    refine (HL1.out _).mono ?_
    rintro e w7 ⟨rfl, rfl⟩
    go_wp2
    change bodyPost _ _ _ _ _ (put7 w6 (w.heap.size + 1) (.int .i64 0) (.slice none 0 0) (.int .i64 0) (.slice none 0 0) (.int .i64 0) (.int .i64 0) (.slice none 0 0))
    obtain ⟨r0, r1, r2, r3, r4, r5, r6⟩ := put7_at (.int .i64 0) (.slice none 0 0) (.int .i64 0) (.slice none 0 0) (.int .i64 0) (.int .i64 0) (.slice none 0 0) Z0 Z1 Z2 Z3 Z4 Z5 Z6
    have hBZ := put7_below (.int .i64 0) (.slice none 0 0) (.int .i64 0) (.slice none 0 0) (.int .i64 0) (.int .i64 0) (.slice none 0 0) hbe (b := (w.heap.size + 1)) (by omega)
    generalize put7 w6 (w.heap.size + 1) (.int .i64 0) (.slice none 0 0) (.int .i64 0) (.slice none 0 0) (.int .i64 0) (.int .i64 0) (.slice none 0 0) = Z at *
    refine bodyPost_ret (v := .tuple #[.agg #[.int .i64 0, .slice none 0 0, .int .i64 0, .slice none 0 0, .int .i64 0, .int .i64 0, .slice none 0 0], .int .i64 9]) (by simp [results, Tryz.results57, go_sem, r0, r1, r2, r3, r4, r5, r6]) rfl ?_
    show TsPost _ w _ _
    rw [HM.out]
    exact ⟨_, _, _, rfl, rdst_no _, hBZ⟩
  | true =>
  cases g2 : lineB (a.to + n) with
  | false =>
    rw [g1] at HL1
    rw [g2] at HL2
    have HM : Hid (twoM (perMove n) (moveRest n a) a = (noSt, 9)) := by unfold Hid; rw [HM0.out, HRS.out, if_neg (by simp), if_pos (.inr g2)]
    clear g1 g2
    go_wp2_with fail
    refine (HL1.out _).mono ?_
    rintro e w7 ⟨rfl, rfl⟩
    go_wp2_with fail
    refine (HL2.out _).mono ?_
    rintro e w7 ⟨rfl, rfl⟩
    go_wp2
    change bodyPost _ _ _ _ _ (put7 w6 (w.heap.size + 1) (.int .i64 0) (.slice none 0 0) (.int .i64 0) (.slice none 0 0) (.int .i64 0) (.int .i64 0) (.slice none 0 0))
    obtain ⟨r0, r1, r2, r3, r4, r5, r6⟩ := put7_at (.int .i64 0) (.slice none 0 0) (.int .i64 0) (.slice none 0 0) (.int .i64 0) (.int .i64 0) (.slice none 0 0) Z0 Z1 Z2 Z3 Z4 Z5 Z6
    have hBZ := put7_below (.int .i64 0) (.slice none 0 0) (.int .i64 0) (.slice none 0 0) (.int .i64 0) (.int .i64 0) (.slice none 0 0) hbe (b := (w.heap.size + 1)) (by omega)
    generalize put7 w6 (w.heap.size + 1) (.int .i64 0) (.slice none 0 0) (.int .i64 0) (.slice none 0 0) (.int .i64 0) (.int .i64 0) (.slice none 0 0) = Z at *
    refine bodyPost_ret (v := .tuple #[.agg #[.int .i64 0, .slice none 0 0, .int .i64 0, .slice none 0 0, .int .i64 0, .int .i64 0, .slice none 0 0], .int .i64 9]) (by simp [results, Tryz.results57, go_sem, r0, r1, r2, r3, r4, r5, r6]) rfl ?_
    show TsPost _ w _ _
    rw [HM.out]
    exact ⟨_, _, _, rfl, rdst_no _, hBZ⟩
  | true =>
  have HM : Hid (twoM (perMove n) (moveRest n a) a = (⟨(P1, l1), (P2, l2), a.fr + n, a.to + n, a.l.map (shf n)⟩, 0)) := by unfold Hid; rw [HM0.out, HRS.out, if_neg (by simp), if_neg (by rw [g1, g2]; simp)]
  have hgl := (lineB_iff _).1 g1
  have hgm := (lineB_iff _).1 g2
  rw [g1] at HL1
  rw [g2] at HL2
  clear g1 g2
  go_wp2_with fail
  refine (HL1.out _).mono ?_
  rintro e w7 ⟨rfl, rfl⟩
  go_wp2_with fail
  refine (HL2.out _).mono ?_
  rintro e w7 ⟨rfl, rfl⟩
  have hb8 := (Below.refl w6.heap.size w6).alloc (Nat.le_refl _) (.cells #[.int .i64 P1, .slice p1 l1.length q1, .int .i64 P2, .slice p2 l2.length q2, .int .i64 (a.fr + n), .int .i64 (a.to + n), .slice none 0 0] 26)
  obtain ⟨W8, hW8⟩ : ∃ W8, w6.alloc (.cells #[.int .i64 P1, .slice p1 l1.length q1, .int .i64 P2, .slice p2 l2.length q2, .int .i64 (a.fr + n), .int .i64 (a.to + n), .slice none 0 0] 26) = W8 := ⟨_, rfl⟩
  have HB8 : Hid (Set7 W8 w6.heap.size (.int .i64 P1) (.slice p1 l1.length q1) (.int .i64 P2) (.slice p2 l2.length q2) (.int .i64 (a.fr + n)) (.int .i64 (a.to + n)) (.slice none 0 0)) := by rw [← hW8]; exact set7_new _ _ _ _ _ _ _ _
  have hsz8 : W8.heap.size = w6.heap.size + 1 := by rw [← hW8]; simp
  have HSZ8 := Lib.hid hsz8
  rw [hW8] at hb8
  have HE8 := Lib.hid hW8
  have HBL8 := Lib.hid hb8
  have HRL := Lib.hid (keepRd hb8 HI6.out.ra.2.2)
  obtain ⟨hl3, hc3⟩ : a.l.length ≤ 8796093022208 ∧ ∀ i, i < a.l.length → ∃ b o, a3 = some ⟨b, o, none⟩ ∧ w6.cell? ⟨b, o + i * 2, none⟩ = some (.int .i64 (a.l.getD i (0, 0)).1) ∧ w6.cell? ⟨b, o + i * 2 + 1, none⟩ = some (.int .i64 (a.l.getD i (0, 0)).2) := by
    obtain ⟨p, c, e, h1, h2⟩ := HI6.out.ra.2.2
    cases e
    exact ⟨h1, h2⟩
  have HC := Lib.hid hc3
  clear hW8 hb8 hc3 hsz8
  go_wp2_with fail
  rw [HE8.out]
  go_loopw [12] (fun vi wr => ∃ (i : Nat) (v : Value), vi = .int .i64 i ∧ i ≤ a.l.length ∧ OwnS wr (w6.heap.size + 1) v ((a.l.take i).map (shf n)) ∧ Set7 wr w6.heap.size (.int .i64 P1) (.slice p1 l1.length q1) (.int .i64 P2) (.slice p2 l2.length q2) (.int .i64 (a.fr + n)) (.int .i64 (a.to + n)) v ∧ Below w6.heap.size w6 wr ∧ w6.heap.size + 1 ≤ wr.heap.size) (fun vi _ => a.l.length - (intOf vi).toNat)
  case atStart => exact ⟨0, .slice none 0 0, rfl, Nat.zero_le _, OwnS.nil _ _, HB8.out, HBL8.out, by have := HSZ8.out; omega⟩
  case round =>
    obtain ⟨i, v, rfl, hi, ho, h8, hB, hz⟩ := hrel
    have HIr := Lib.hid (HI6.out.below hB)
    clear A0 A1 A2 A3 A4 A5 A6 Z0 Z1 Z2 Z3 Z4 Z5 Z6 K0 K1 K2 K3 K4 K5 K6 hbe
    clear x0 x1 y0 y1
    obtain ⟨⟨⟨A0, A1, A2, A3, A4, A5, A6⟩, _⟩, ⟨⟨Z0, Z1, Z2, Z3, Z4, Z5, Z6⟩, K0, K1, K2, K3, K4, K5, K6⟩, _, _, hbe⟩ := HIr.out
    by_cases hlt : i < a.l.length
    · obtain ⟨bb, o, x, y, hbb, hbw, HXY, d1, d2⟩ := rd_at HC.out hB hlt
      obtain ⟨i1, i2, i3⟩ := HIN.out i x y HXY.out hlt
      have HTK := Lib.hid (map_take_succ (d := n) HXY.out hlt)
      have hll : ((a.l.take i).map (shf n)).length < 1000000000000 := by rw [List.length_map, List.length_take]; have := HLE.out; omega
      obtain ⟨X, hX⟩ : ∃ X, (a.l.take i).map (shf n) = X := ⟨_, rfl⟩
      rw [hX] at ho hll HTK
      subst hbb
      have hli' : (i : Int) < (a.l.length : Int) := by omega
      have hod : OwnS wr.drew (w6.heap.size + 1) v X := ho.below (Below.refl _ wr).drew
      have hzd : w6.heap.size + 1 ≤ wr.drew.heap.size := hz
      have s3 : IntKind.i64.wrap (x + n) = x + n := by rw [IntKind.wrap_i64]; omega
      have s4 : IntKind.i64.wrap (y + n) = y + n := by rw [IntKind.wrap_i64]; omega
      have H8 := Lib.hid h8
      have HBr := Lib.hid hB
      obtain ⟨⟨c0, c1, c2, c3, c4, c5, c6⟩, _⟩ := h8
      have E6 := ext_cell A6
      have e1 := ext_cell d1
      have e2 := ext_cell d2
      have e6 := ext_cell c6
      have k6 := keepCell ((Below.refl wr.heap.size wr).alloc (Nat.le_refl _) (.cells #[.int .i64 (x + n), .int .i64 (y + n)] 40)) c6
      clear hX A0 A1 A2 A3 A4 A5 Z0 Z1 Z2 Z3 Z4 Z5 Z6 K0 K1 K2 K3 K4 K5 K6 hbe c0 c1 c2 c3 c4 c5
      go_wp2_with fail
      go_region_law (refine step_app_in rfl (.tmp 87) (.tmp 105) rfl rfl hod hzd rfl (by simp) hll ?_; intro v1 w3 o1 b1; obtain ⟨pv, qv, hv0, _⟩ := o1.form; have hv : v1 = .slice pv (X.length + 1) qv := (by simpa using hv0); subst hv; clear hv0; have O1 := Lib.hid o1; have H8n := Lib.hid (cut_set7 (W := wr.drew) (X := w3) H8.out (Nat.lt_succ_self _) hzd b1); obtain ⟨⟨g0, g1, g2, g3, g4, g5, g6⟩, f0, f1, f2, f3, f4, f5, f6⟩ := H8n.out)
      all_goals go_wp2
      all_goals go_roundw
      all_goals first
        | (simp [intOf]; omega)
        | exact ⟨i + 1, .slice pv (X.length + 1) qv, by go_num, by omega, by rw [HTK.out]; exact O1.out.setCell (Nat.lt_succ_self _) _, set7_last H8n.out _, (cut_below (k := w6.heap.size) (W := wr.drew) HBr.out.drew (Nat.le_succ _) hzd (Nat.le_succ _) b1).setCell (Nat.le_refl _) _, by have := b1.size; rw [cutAt_size hzd] at this; simpa using this⟩
    · have hil : a.l.take i = a.l := by rw [show i = a.l.length by omega]; exact List.take_length
      rw [hil] at ho
      have ho2 : OwnS wr (w6.heap.size + 1) v (a.l.map (shf n)) := ho
      obtain ⟨pL, qL, hv, _⟩ := ho2.form
      rw [List.length_map] at hv
      subst hv
      have HRD : Hid (RdSt wr ⟨(P1, l1), (P2, l2), a.fr + n, a.to + n, a.l.map (shf n)⟩ (.slice p1 l1.length q1) (.slice p2 l2.length q2) (.slice pL a.l.length qL)) := ⟨keepRd hB HS16.out, keepRd hB HS26.out, ho2.rd (by rw [List.length_map]; have := HLE.out; omega)⟩
      have H8 := Lib.hid h8
      obtain ⟨⟨c0, c1, c2, c3, c4, c5, c6⟩, _⟩ := h8
      clear ho ho2
      go_wp2
      change bodyPost _ _ _ _ _ (put7 wr (w.heap.size + 1) (.int .i64 P1) (.slice p1 l1.length q1) (.int .i64 P2) (.slice p2 l2.length q2) (.int .i64 (a.fr + n)) (.int .i64 (a.to + n)) (.slice pL a.l.length qL))
      obtain ⟨r0, r1, r2, r3, r4, r5, r6⟩ := put7_at (.int .i64 P1) (.slice p1 l1.length q1) (.int .i64 P2) (.slice p2 l2.length q2) (.int .i64 (a.fr + n)) (.int .i64 (a.to + n)) (.slice pL a.l.length qL) Z0 Z1 Z2 Z3 Z4 Z5 Z6
      have hBZ := put7_below (.int .i64 P1) (.slice p1 l1.length q1) (.int .i64 P2) (.slice p2 l2.length q2) (.int .i64 (a.fr + n)) (.int .i64 (a.to + n)) (.slice pL a.l.length qL) hbe (b := (w.heap.size + 1)) (by omega)
      have hRZ := (HRD.out).put (.int .i64 P1) (.slice p1 l1.length q1) (.int .i64 P2) (.slice p2 l2.length q2) (.int .i64 (a.fr + n)) (.int .i64 (a.to + n)) (.slice pL a.l.length qL) HPOS.out HIr.out.zz
      generalize put7 wr (w.heap.size + 1) (.int .i64 P1) (.slice p1 l1.length q1) (.int .i64 P2) (.slice p2 l2.length q2) (.int .i64 (a.fr + n)) (.int .i64 (a.to + n)) (.slice pL a.l.length qL) = Z at *
      refine bodyPost_ret (v := .tuple #[.agg #[.int .i64 P1, .slice p1 l1.length q1, .int .i64 P2, .slice p2 l2.length q2, .int .i64 (a.fr + n), .int .i64 (a.to + n), .slice pL a.l.length qL], .int .i64 0]) (by simp [results, Tryz.results57, go_sem, r0, r1, r2, r3, r4, r5, r6]) rfl ?_
      show TsPost _ w _ _
      rw [HM.out]
      exact ⟨_, _, _, rfl, hRZ, hBZ⟩
end Go.Proofs.YtnjpceocnldlfaaGreat
