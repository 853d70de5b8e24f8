import Derived.Test.YtnjpceocnldlfaaGreatWkBf
import Derived.Test.YtnjpceocnldlfaaGreatWkPo
import Derived.Test.YtnjpceocnldlfaaGreatWkRcN
/- timeset.Minus. -/
namespace Go.Proofs.YtnjpceocnldlfaaGreat
open Go.RowKit Wk

set_option maxRecDepth 100000 in
set_option maxHeartbeats 8000000 in
theorem tcomb_Minus (a b : St) (al ar av bl br bv : Value) (w : World) (ha : RdSt w a al ar av) (hb : RdSt w b bl br bv) :
    Calls Tryz.prog 81 #[.agg #[.int .i64 a.lf.1, al, .int .i64 a.rt.1, ar, .int .i64 a.fr, .int .i64 a.to, av], .agg #[.int .i64 b.lf.1, bl, .int .i64 b.rt.1, br, .int .i64 b.fr, .int .i64 b.to, bv], .agg #[.func (.func 103) #[] #[], .func (.func 104) #[] #[]]] w (TsPost (combM 2 a b) w) := by
  have HVA := Lib.hid (fun W h => tvalid_any a al ar av W h)
  have HVB := Lib.hid (fun W h => tvalid_any b bl br bv W h)
  have HPL := Lib.hid (fun W h h' => perop_Minus a.lf.1 b.lf.1 al bl a.lf.2 b.lf.2 W h h')
  have HPR := Lib.hid (fun W h h' => perop_Minus a.rt.1 b.rt.1 ar br a.rt.2 b.rt.2 W h h')
  have HIA := Lib.hid (fun W h => ispure_any a al ar av W h)
  have HIB := Lib.hid (fun W h => ispure_any b bl br bv W h)
  have HMA : Hid (VB a = true → ∀ f t W, RdSt W a al ar av → f ≤ t → -1152921504606846976 ≤ f → t ≤ 1152921504606846976 → Calls Tryz.prog 71 #[.iface 82 (.agg #[.int .i64 a.lf.1, al, .int .i64 a.rt.1, ar, .int .i64 a.fr, .int .i64 a.to, av]), .int .i64 f, .int .i64 t] W (MePost (hasS a) f t W)) :=
    fun hg f t W h h1 h2 h3 => members_any _ _ _ _ _ f t W (srcA_whole a al ar av W h (okS_of_VB hg)) h1 h2 h3
  have HMB : Hid (VB b = true → ∀ f t W, RdSt W b bl br bv → f ≤ t → -1152921504606846976 ≤ f → t ≤ 1152921504606846976 → Calls Tryz.prog 71 #[.iface 82 (.agg #[.int .i64 b.lf.1, bl, .int .i64 b.rt.1, br, .int .i64 b.fr, .int .i64 b.to, bv]), .int .i64 f, .int .i64 t] W (MePost (hasS b) f t W)) :=
    fun hg f t W h h1 h2 h3 => members_any _ _ _ _ _ f t W (srcA_whole b bl br bv W h (okS_of_VB hg)) h1 h2 h3
  have HRA := Lib.hid ha
  have HRB := Lib.hid hb
  obtain ⟨a1, n1, e1⟩ := ha.1.form
  obtain ⟨a2, n2, e2⟩ := ha.2.1.form
  obtain ⟨a3, n3, e3⟩ := ha.2.2.form
  obtain ⟨b1, m1, e4⟩ := hb.1.form
  obtain ⟨b2, m2, e5⟩ := hb.2.1.form
  obtain ⟨b3, m3, e6⟩ := hb.2.2.form
  subst e1 e2 e3 e4 e5 e6
  obtain ⟨W, hWe⟩ : ∃ W, (((w.alloc (.cells #[.int .i64 a.lf.1, .slice a1 a.lf.2.length n1, .int .i64 a.rt.1, .slice a2 a.rt.2.length n2, .int .i64 a.fr, .int .i64 a.to, .slice a3 a.l.length n3] 26)).alloc (.cells #[.int .i64 b.lf.1, .slice b1 b.lf.2.length m1, .int .i64 b.rt.1, .slice b2 b.rt.2.length m2, .int .i64 b.fr, .int .i64 b.to, .slice b3 b.l.length m3] 26)).alloc (.cells #[.func (.func 103) #[] #[], .func (.func 104) #[] #[]] 96)).alloc (.cells #[.int .i64 0, .slice none 0 0, .int .i64 0, .slice none 0 0, .int .i64 0, .int .i64 0, .slice none 0 0] 26) = W := ⟨_, rfl⟩
  have hW : Below w.heap.size w W := by rw [← hWe]; exact ((((Below.refl _ w).alloc (Nat.le_refl _) _).alloc (by simp) _).alloc (by simp; omega) _).alloc (by simp; omega) _
  have HI : Hid (CbIn w a b (.slice a1 a.lf.2.length n1) (.slice a2 a.rt.2.length n2) (.slice a3 a.l.length n3) (.slice b1 b.lf.2.length m1) (.slice b2 b.rt.2.length m2) (.slice b3 b.l.length m3) (.func (.func 103) #[] #[]) (.func (.func 104) #[] #[]) W) := by
    refine ⟨?_, ?_, ?_, ?_, ?_, keepSt hW HRA.out, keepSt hW HRB.out, hW⟩
    · rw [← hWe]
      refine ⟨⟨?_, ?_, ?_, ?_, ?_, ?_, ?_⟩, ?_, ?_, ?_, ?_, ?_, ?_, ?_⟩ <;> simp [go_sem]
    · rw [← hWe]
      refine ⟨⟨?_, ?_, ?_, ?_, ?_, ?_, ?_⟩, ?_, ?_, ?_, ?_, ?_, ?_, ?_⟩ <;> simp [go_sem]
    · rw [← hWe]
      refine ⟨?_, ?_⟩ <;> simp [go_sem]
    · rw [← hWe]
      refine ⟨⟨?_, ?_, ?_, ?_, ?_, ?_, ?_⟩, ?_, ?_, ?_, ?_, ?_, ?_, ?_⟩ <;> simp [go_sem]
    · rw [← hWe]
      have := zero7_new (((w.alloc (.cells #[.int .i64 a.lf.1, .slice a1 a.lf.2.length n1, .int .i64 a.rt.1, .slice a2 a.rt.2.length n2, .int .i64 a.fr, .int .i64 a.to, .slice a3 a.l.length n3] 26)).alloc (.cells #[.int .i64 b.lf.1, .slice b1 b.lf.2.length m1, .int .i64 b.rt.1, .slice b2 b.rt.2.length m2, .int .i64 b.fr, .int .i64 b.to, .slice b3 b.l.length m3] 26)).alloc (.cells #[.func (.func 103) #[] #[], .func (.func 104) #[] #[]] 96))
      simpa using this
  have HE := Lib.hid hWe
  clear hWe hW ha hb HRA HRB
  obtain ⟨⟨⟨A0, A1, A2, A3, A4, A5, A6⟩, _⟩, ⟨⟨B0, B1, B2, B3, B4, B5, B6⟩, _⟩, ⟨O0, O1⟩, ⟨⟨Z0, Z1, Z2, Z3, Z4, Z5, Z6⟩, K0, K1, K2, K3, K4, K5, K6⟩, _, _, _, hbe⟩ := HI.out
  obtain ⟨ga, hga⟩ : ∃ g, VB a = g := ⟨_, rfl⟩
  obtain ⟨gb, hgb⟩ : ∃ g, VB b = g := ⟨_, rfl⟩
  rw [hga] at HVA
  rw [hgb] at HVB
  have HGA := Lib.hid hga
  have HGB := Lib.hid hgb
  clear hga hgb
  go_enter Tryz.func81, Tryz.ntmps81
  go_wp2_with fail
  rw [HE.out]
  go_wp2_with fail
  refine (HVA.out _ HI.out.ra).mono ?_
  rintro e w1 ⟨rfl, hb1⟩
  have HI1 := Lib.hid (HI.out.below hb1)
  clear hb1 HE
  clear A0 A1 A2 A3 A4 A5 A6 B0 B1 B2 B3 B4 B5 B6 O0 O1 Z0 Z1 Z2 Z3 Z4 Z5 Z6 K0 K1 K2 K3 K4 K5 K6 hbe
  obtain ⟨⟨⟨A0, A1, A2, A3, A4, A5, A6⟩, _⟩, ⟨⟨B0, B1, B2, B3, B4, B5, B6⟩, _⟩, ⟨O0, O1⟩, ⟨⟨Z0, Z1, Z2, Z3, Z4, Z5, Z6⟩, K0, K1, K2, K3, K4, K5, K6⟩, _, _, _, hbe⟩ := HI1.out
  cases ga with
  | false =>
    have HM := Lib.hid (comb_bad (kind := 2) (a := a) (b := b) (.inl HGA.out))
    go_wp2
    change bodyPost _ _ _ _ _ (put7 w1 (w.heap.size + 1 + 1 + 1) (.int .i64 0) (.slice none 0 0) (.int .i64 0) (.slice none 0 0) (.int .i64 0) (.int .i64 0) (.slice none 0 0))
    obtain ⟨r0, r1, r2, r3, r4, r5, r6⟩ := put7_at (.int .i64 0) (.slice none 0 0) (.int .i64 0) (.slice none 0 0) (.int .i64 0) (.int .i64 0) (.slice none 0 0) Z0 Z1 Z2 Z3 Z4 Z5 Z6
    have hBZ := put7_below (.int .i64 0) (.slice none 0 0) (.int .i64 0) (.slice none 0 0) (.int .i64 0) (.int .i64 0) (.slice none 0 0) hbe (b := (w.heap.size + 1 + 1 + 1)) (by omega)
    generalize put7 w1 (w.heap.size + 1 + 1 + 1) (.int .i64 0) (.slice none 0 0) (.int .i64 0) (.slice none 0 0) (.int .i64 0) (.int .i64 0) (.slice none 0 0) = Z at *
    refine bodyPost_ret (v := .tuple #[.agg #[.int .i64 0, .slice none 0 0, .int .i64 0, .slice none 0 0, .int .i64 0, .int .i64 0, .slice none 0 0], .int .i64 1]) (by simp [results, Tryz.results81, go_sem, r0, r1, r2, r3, r4, r5, r6]) rfl ?_
    show TsPost _ w _ _
    rw [HM.out]
    exact ⟨_, _, _, rfl, rdst_no _, hBZ⟩
  | true =>
  go_wp2_with fail
  refine (HVB.out _ HI1.out.rb).mono ?_
  rintro e w2 ⟨rfl, hb2⟩
  have HI2 := Lib.hid (HI1.out.below hb2)
  clear hb2
  clear A0 A1 A2 A3 A4 A5 A6 B0 B1 B2 B3 B4 B5 B6 O0 O1 Z0 Z1 Z2 Z3 Z4 Z5 Z6 K0 K1 K2 K3 K4 K5 K6 hbe
  obtain ⟨⟨⟨A0, A1, A2, A3, A4, A5, A6⟩, _⟩, ⟨⟨B0, B1, B2, B3, B4, B5, B6⟩, _⟩, ⟨O0, O1⟩, ⟨⟨Z0, Z1, Z2, Z3, Z4, Z5, Z6⟩, K0, K1, K2, K3, K4, K5, K6⟩, _, _, _, hbe⟩ := HI2.out
  cases gb with
  | false =>
    have HM := Lib.hid (comb_bad (kind := 2) (a := a) (b := b) (.inr HGB.out))
    go_wp2
    change bodyPost _ _ _ _ _ (put7 w2 (w.heap.size + 1 + 1 + 1) (.int .i64 0) (.slice none 0 0) (.int .i64 0) (.slice none 0 0) (.int .i64 0) (.int .i64 0) (.slice none 0 0))
    obtain ⟨r0, r1, r2, r3, r4, r5, r6⟩ := put7_at (.int .i64 0) (.slice none 0 0) (.int .i64 0) (.slice none 0 0) (.int .i64 0) (.int .i64 0) (.slice none 0 0) Z0 Z1 Z2 Z3 Z4 Z5 Z6
    have hBZ := put7_below (.int .i64 0) (.slice none 0 0) (.int .i64 0) (.slice none 0 0) (.int .i64 0) (.int .i64 0) (.slice none 0 0) hbe (b := (w.heap.size + 1 + 1 + 1)) (by omega)
    generalize put7 w2 (w.heap.size + 1 + 1 + 1) (.int .i64 0) (.slice none 0 0) (.int .i64 0) (.slice none 0 0) (.int .i64 0) (.int .i64 0) (.slice none 0 0) = Z at *
    refine bodyPost_ret (v := .tuple #[.agg #[.int .i64 0, .slice none 0 0, .int .i64 0, .slice none 0 0, .int .i64 0, .int .i64 0, .slice none 0 0], .int .i64 1]) (by simp [results, Tryz.results81, go_sem, r0, r1, r2, r3, r4, r5, r6]) rfl ?_
    show TsPost _ w _ _
    rw [HM.out]
    exact ⟨_, _, _, rfl, rdst_no _, hBZ⟩
  | true =>
  go_wp2_with fail
  refine (HPL.out _ HI2.out.ra.1 HI2.out.rb.1).mono ?_
  rintro e w3 ⟨v1, rfl, o1, hb3⟩
  obtain ⟨⟨⟨P1, l1⟩, e1⟩, hr1⟩ : ∃ r, bothM 2 (a.lf.1, a.lf.2) (b.lf.1, b.lf.2) = r := ⟨_, rfl⟩
  rw [hr1] at o1 ⊢
  have HB1 : Hid (bothM 2 a.lf b.lf = ((P1, l1), e1)) := hr1
  clear hr1
  simp only at o1 ⊢
  obtain ⟨p1, q1, rfl, _⟩ := o1.form
  have HA3 := Lib.hid ((Below.refl w3.heap.size w3).alloc (Nat.le_refl _) (.cells #[.int .i64 P1, .slice p1 l1.length q1] 24))
  have HI3 : Hid (CbIn w a b (.slice a1 a.lf.2.length n1) (.slice a2 a.rt.2.length n2) (.slice a3 a.l.length n3) (.slice b1 b.lf.2.length m1) (.slice b2 b.rt.2.length m2) (.slice b3 b.l.length m3) (.func (.func 103) #[] #[]) (.func (.func 104) #[] #[]) (w3.alloc (.cells #[.int .i64 P1, .slice p1 l1.length q1] 24))) := (HI2.out.below hb3).below HA3.out
  have HO1 := Lib.hid (o1.below HA3.out)
  have HX1 : Hid (Box2 (w3.alloc (.cells #[.int .i64 P1, .slice p1 l1.length q1] 24)) w3.heap.size (.int .i64 P1) (.slice p1 l1.length q1)) := box2_new _ _ _ _
  clear hb3 o1
  clear A0 A1 A2 A3 A4 A5 A6 B0 B1 B2 B3 B4 B5 B6 O0 O1 Z0 Z1 Z2 Z3 Z4 Z5 Z6 K0 K1 K2 K3 K4 K5 K6 hbe
  obtain ⟨⟨⟨A0, A1, A2, A3, A4, A5, A6⟩, _⟩, ⟨⟨B0, B1, B2, B3, B4, B5, B6⟩, _⟩, ⟨O0, O1⟩, ⟨⟨Z0, Z1, Z2, Z3, Z4, Z5, Z6⟩, K0, K1, K2, K3, K4, K5, K6⟩, _, _, _, hbe⟩ := HI3.out
  by_cases h1 : e1 ≠ 0
  ·
    have HM := Lib.hid (comb_left (kind := 2) HGA.out HGB.out (by rw [HB1.out]) h1)
    have t1 : (e1 != 0) = true := by simpa using h1
    clear h1
    go_wp2
    change bodyPost _ _ _ _ _ (put7 (w3.alloc (.cells #[.int .i64 P1, .slice p1 l1.length q1] 24)) (w.heap.size + 1 + 1 + 1) (.int .i64 0) (.slice none 0 0) (.int .i64 0) (.slice none 0 0) (.int .i64 0) (.int .i64 0) (.slice none 0 0))
    obtain ⟨r0, r1, r2, r3, r4, r5, r6⟩ := put7_at (.int .i64 0) (.slice none 0 0) (.int .i64 0) (.slice none 0 0) (.int .i64 0) (.int .i64 0) (.slice none 0 0) Z0 Z1 Z2 Z3 Z4 Z5 Z6
    have hBZ := put7_below (.int .i64 0) (.slice none 0 0) (.int .i64 0) (.slice none 0 0) (.int .i64 0) (.int .i64 0) (.slice none 0 0) hbe (b := (w.heap.size + 1 + 1 + 1)) (by omega)
    generalize put7 (w3.alloc (.cells #[.int .i64 P1, .slice p1 l1.length q1] 24)) (w.heap.size + 1 + 1 + 1) (.int .i64 0) (.slice none 0 0) (.int .i64 0) (.slice none 0 0) (.int .i64 0) (.int .i64 0) (.slice none 0 0) = Z at *
    refine bodyPost_ret (v := .tuple #[.agg #[.int .i64 0, .slice none 0 0, .int .i64 0, .slice none 0 0, .int .i64 0, .int .i64 0, .slice none 0 0], .int .i64 e1]) (by simp [results, Tryz.results81, go_sem, r0, r1, r2, r3, r4, r5, r6]) rfl ?_
    show TsPost _ w _ _
    rw [HM.out]
    exact ⟨_, _, _, rfl, rdst_no _, hBZ⟩
  have h1 : e1 = 0 := by omega
  subst h1
  have HQ1 := Lib.hid (bothM_ok (kind := 2) (p := a.lf) (q := b.lf) (by rw [HB1.out]))
  rw [HB1.out] at HQ1
  have HL1 : Hid (l1.length ≤ 2000) := (canon_of_rvB (rvB_of_pvB HQ1.out.2.2.1).1).2.2
  obtain ⟨⟨x0, x1⟩, _⟩ := HX1.out
  go_wp2_with fail
  refine (HPR.out _ HI3.out.ra.2.1 HI3.out.rb.2.1).mono ?_
  rintro e w4 ⟨v2, rfl, o2, hb4⟩
  obtain ⟨⟨⟨P2, l2⟩, e2⟩, hr2⟩ : ∃ r, bothM 2 (a.rt.1, a.rt.2) (b.rt.1, b.rt.2) = r := ⟨_, rfl⟩
  rw [hr2] at o2 ⊢
  have HB2 : Hid (bothM 2 a.rt b.rt = ((P2, l2), e2)) := hr2
  clear hr2
  simp only at o2 ⊢
  obtain ⟨p2, q2, rfl, _⟩ := o2.form
  have HA4 := Lib.hid ((Below.refl w4.heap.size w4).alloc (Nat.le_refl _) (.cells #[.int .i64 P2, .slice p2 l2.length q2] 24))
  have HI4 : Hid (CbIn w a b (.slice a1 a.lf.2.length n1) (.slice a2 a.rt.2.length n2) (.slice a3 a.l.length n3) (.slice b1 b.lf.2.length m1) (.slice b2 b.rt.2.length m2) (.slice b3 b.l.length m3) (.func (.func 103) #[] #[]) (.func (.func 104) #[] #[]) (w4.alloc (.cells #[.int .i64 P2, .slice p2 l2.length q2] 24))) := (HI3.out.below hb4).below HA4.out
  have HO2 := Lib.hid (o2.below HA4.out)
  have HR1 : Hid (RdS (w4.alloc (.cells #[.int .i64 P2, .slice p2 l2.length q2] 24)) (.slice p1 l1.length q1) l1) := keepRd HA4.out (keepRd hb4 (HO1.out.rd (by have := HL1.out; omega)))
  have HX1' : Hid (Box2 (w4.alloc (.cells #[.int .i64 P2, .slice p2 l2.length q2] 24)) w3.heap.size (.int .i64 P1) (.slice p1 l1.length q1)) := (HX1.out.below hb4).below HA4.out
  have HX2 : Hid (Box2 (w4.alloc (.cells #[.int .i64 P2, .slice p2 l2.length q2] 24)) w4.heap.size (.int .i64 P2) (.slice p2 l2.length q2)) := box2_new _ _ _ _
  clear hb4 o2 x0 x1 HX1 HI3 HO1 HA3
  clear A0 A1 A2 A3 A4 A5 A6 B0 B1 B2 B3 B4 B5 B6 O0 O1 Z0 Z1 Z2 Z3 Z4 Z5 Z6 K0 K1 K2 K3 K4 K5 K6 hbe
  obtain ⟨⟨⟨A0, A1, A2, A3, A4, A5, A6⟩, _⟩, ⟨⟨B0, B1, B2, B3, B4, B5, B6⟩, _⟩, ⟨O0, O1⟩, ⟨⟨Z0, Z1, Z2, Z3, Z4, Z5, Z6⟩, K0, K1, K2, K3, K4, K5, K6⟩, _, _, _, hbe⟩ := HI4.out
  by_cases h2 : e2 ≠ 0
  ·
    have HM := Lib.hid (comb_right (kind := 2) HGA.out HGB.out (by rw [HB1.out]) (by rw [HB2.out]) h2)
    have t1 : (e2 != 0) = true := by simpa using h2
    clear h2
    go_wp2
    change bodyPost _ _ _ _ _ (put7 (w4.alloc (.cells #[.int .i64 P2, .slice p2 l2.length q2] 24)) (w.heap.size + 1 + 1 + 1) (.int .i64 0) (.slice none 0 0) (.int .i64 0) (.slice none 0 0) (.int .i64 0) (.int .i64 0) (.slice none 0 0))
    obtain ⟨r0, r1, r2, r3, r4, r5, r6⟩ := put7_at (.int .i64 0) (.slice none 0 0) (.int .i64 0) (.slice none 0 0) (.int .i64 0) (.int .i64 0) (.slice none 0 0) Z0 Z1 Z2 Z3 Z4 Z5 Z6
    have hBZ := put7_below (.int .i64 0) (.slice none 0 0) (.int .i64 0) (.slice none 0 0) (.int .i64 0) (.int .i64 0) (.slice none 0 0) hbe (b := (w.heap.size + 1 + 1 + 1)) (by omega)
    generalize put7 (w4.alloc (.cells #[.int .i64 P2, .slice p2 l2.length q2] 24)) (w.heap.size + 1 + 1 + 1) (.int .i64 0) (.slice none 0 0) (.int .i64 0) (.slice none 0 0) (.int .i64 0) (.int .i64 0) (.slice none 0 0) = Z at *
    refine bodyPost_ret (v := .tuple #[.agg #[.int .i64 0, .slice none 0 0, .int .i64 0, .slice none 0 0, .int .i64 0, .int .i64 0, .slice none 0 0], .int .i64 e2]) (by simp [results, Tryz.results81, go_sem, r0, r1, r2, r3, r4, r5, r6]) rfl ?_
    show TsPost _ w _ _
    rw [HM.out]
    exact ⟨_, _, _, rfl, rdst_no _, hBZ⟩
  have h2 : e2 = 0 := by omega
  subst h2
  have HQ2 := Lib.hid (bothM_ok (kind := 2) (p := a.rt) (q := b.rt) (by rw [HB2.out]))
  rw [HB2.out] at HQ2
  have HL2 : Hid (l2.length ≤ 2000) := (canon_of_rvB (rvB_of_pvB HQ2.out.2.2.1).1).2.2
  have HR2 : Hid (RdS (w4.alloc (.cells #[.int .i64 P2, .slice p2 l2.length q2] 24)) (.slice p2 l2.length q2) l2) := HO2.out.rd (by have := HL2.out; omega)
  obtain ⟨⟨x0, x1⟩, _⟩ := HX1'.out
  obtain ⟨⟨y0, y1⟩, _⟩ := HX2.out
  have HPP := Lib.hid (fun W h h' => pair_any P1 P2 (.slice p1 l1.length q1) (.slice p2 l2.length q2) l1 l2 W h h' HQ1.out.2.2.1 HQ2.out.2.2.1)
  obtain ⟨pe, hpe⟩ : ∃ pe, pairM P1 l1 P2 l2 = pe := ⟨_, rfl⟩
  rw [hpe] at HPP
  have HPE := Lib.hid hpe
  clear hpe
  go_wp2_with fail
  refine (HPP.out _ HR1.out HR2.out).mono ?_
  rintro e w5 ⟨rfl, hb5⟩
  have HI5 := Lib.hid (HI4.out.below hb5)
  have HS1 := Lib.hid (keepRd hb5 HR1.out)
  have HS2 := Lib.hid (keepRd hb5 HR2.out)
  have HY1 := Lib.hid (HX1'.out.below hb5)
  have HY2 := Lib.hid (HX2.out.below hb5)
  clear hb5 x0 x1 y0 y1 HX1' HX2 HR1 HR2 HI4 HO2 HA4
  clear A0 A1 A2 A3 A4 A5 A6 B0 B1 B2 B3 B4 B5 B6 O0 O1 Z0 Z1 Z2 Z3 Z4 Z5 Z6 K0 K1 K2 K3 K4 K5 K6 hbe
  obtain ⟨⟨⟨A0, A1, A2, A3, A4, A5, A6⟩, _⟩, ⟨⟨B0, B1, B2, B3, B4, B5, B6⟩, _⟩, ⟨O0, O1⟩, ⟨⟨Z0, Z1, Z2, Z3, Z4, Z5, Z6⟩, K0, K1, K2, K3, K4, K5, K6⟩, _, _, _, hbe⟩ := HI5.out
  by_cases h3 : pe ≠ 0
  ·
    have HM := Lib.hid (comb_pair (kind := 2) HGA.out HGB.out HB1.out HB2.out HPE.out h3)
    have t1 : (pe != 0) = true := by simpa using h3
    clear h3
    go_wp2
    change bodyPost _ _ _ _ _ (put7 w5 (w.heap.size + 1 + 1 + 1) (.int .i64 0) (.slice none 0 0) (.int .i64 0) (.slice none 0 0) (.int .i64 0) (.int .i64 0) (.slice none 0 0))
    obtain ⟨r0, r1, r2, r3, r4, r5, r6⟩ := put7_at (.int .i64 0) (.slice none 0 0) (.int .i64 0) (.slice none 0 0) (.int .i64 0) (.int .i64 0) (.slice none 0 0) Z0 Z1 Z2 Z3 Z4 Z5 Z6
    have hBZ := put7_below (.int .i64 0) (.slice none 0 0) (.int .i64 0) (.slice none 0 0) (.int .i64 0) (.int .i64 0) (.slice none 0 0) hbe (b := (w.heap.size + 1 + 1 + 1)) (by omega)
    generalize put7 w5 (w.heap.size + 1 + 1 + 1) (.int .i64 0) (.slice none 0 0) (.int .i64 0) (.slice none 0 0) (.int .i64 0) (.int .i64 0) (.slice none 0 0) = Z at *
    refine bodyPost_ret (v := .tuple #[.agg #[.int .i64 0, .slice none 0 0, .int .i64 0, .slice none 0 0, .int .i64 0, .int .i64 0, .slice none 0 0], .int .i64 pe]) (by simp [results, Tryz.results81, go_sem, r0, r1, r2, r3, r4, r5, r6]) rfl ?_
    show TsPost _ w _ _
    rw [HM.out]
    exact ⟨_, _, _, rfl, rdst_no _, hBZ⟩
  have h3 : pe = 0 := by omega
  subst h3
  have HOA := Lib.hid (okS_of_VB HGA.out)
  have HOB := Lib.hid (okS_of_VB HGB.out)
  obtain ⟨fm, hfm⟩ : ∃ x, min a.fr b.fr = x := ⟨_, rfl⟩
  obtain ⟨tm, htm⟩ : ∃ x, max a.to b.to = x := ⟨_, rfl⟩
  have HFM := Lib.hid hfm
  have HTM := Lib.hid htm
  go_upto_region 12 with fail
  go_cut [12, 13] from 63 to 139 (fun u v wx => u = .int .i64 fm ∧ v = .int .i64 tm ∧ Below w5.heap.size w5 wx)
  case first =>
    go_region
    all_goals (go_wp2_with fail; go_meet)
    all_goals (case rel => exact ⟨by first | rfl | rw [HFM.out], by first | rfl | rw [HTM.out], (Below.refl _ _).drew⟩)
  case rest =>
  obtain ⟨rfl, rfl, hb6⟩ := hcut
  have HI6 := Lib.hid (HI5.out.below hb6)
  have HS1 := Lib.hid (keepRd hb6 HS1.out)
  have HS2 := Lib.hid (keepRd hb6 HS2.out)
  have HY1 := Lib.hid (HY1.out.below hb6)
  have HY2 := Lib.hid (HY2.out.below hb6)
  clear hb6 HI5 hfm htm
  clear A0 A1 A2 A3 A4 A5 A6 B0 B1 B2 B3 B4 B5 B6 O0 O1 Z0 Z1 Z2 Z3 Z4 Z5 Z6 K0 K1 K2 K3 K4 K5 K6 hbe
  obtain ⟨⟨⟨A0, A1, A2, A3, A4, A5, A6⟩, _⟩, ⟨⟨B0, B1, B2, B3, B4, B5, B6⟩, _⟩, ⟨O0, O1⟩, ⟨⟨Z0, Z1, Z2, Z3, Z4, Z5, Z6⟩, K0, K1, K2, K3, K4, K5, K6⟩, _, _, _, hbe⟩ := HI6.out
  generalize wc = w6 at *
  obtain ⟨pa, hpa⟩ : ∃ pa, pureB a = pa := ⟨_, rfl⟩
  obtain ⟨pb, hpb⟩ : ∃ pb, pureB b = pb := ⟨_, rfl⟩
  have HPA := Lib.hid hpa
  have HPB := Lib.hid hpb
  rw [hpa] at HIA
  rw [hpb] at HIB
  clear hpa hpb
  obtain ⟨f, hf⟩ : ∃ f, winL a b = f := ⟨_, rfl⟩
  obtain ⟨t, ht⟩ : ∃ t, winR a b = t := ⟨_, rfl⟩
  have HWL := Lib.hid hf
  have HWR := Lib.hid ht
  have HWO := Lib.hid (cwin_ok HOA.out HOB.out)
  rw [hf, ht] at HWO
  clear hf ht
  go_wp2_with fail
  refine (HIA.out _ HI6.out.ra).mono ?_
  rintro e w7 ⟨rfl, hb7⟩
  have HI7 := Lib.hid (HI6.out.below hb7)
  have HS1 := Lib.hid (keepRd hb7 HS1.out)
  have HS2 := Lib.hid (keepRd hb7 HS2.out)
  have HY1 := Lib.hid (HY1.out.below hb7)
  have HY2 := Lib.hid (HY2.out.below hb7)
  clear hb7 HI6
  clear A0 A1 A2 A3 A4 A5 A6 B0 B1 B2 B3 B4 B5 B6 O0 O1 Z0 Z1 Z2 Z3 Z4 Z5 Z6 K0 K1 K2 K3 K4 K5 K6 hbe
  obtain ⟨⟨⟨A0, A1, A2, A3, A4, A5, A6⟩, _⟩, ⟨⟨B0, B1, B2, B3, B4, B5, B6⟩, _⟩, ⟨O0, O1⟩, ⟨⟨Z0, Z1, Z2, Z3, Z4, Z5, Z6⟩, K0, K1, K2, K3, K4, K5, K6⟩, _, _, _, hbe⟩ := HI7.out
  cases pa with
  | true =>
    have HFe : Hid (b.fr = f ∧ b.to = t) := ⟨by have := HWL.out; unfold winL at this; rwa [if_pos HPA.out] at this, by have := HWR.out; unfold winR at this; rwa [if_pos HPA.out] at this⟩
    have E0 := ext_cell B4
    have E1 := ext_cell B5
    go_wp2_with fail
    refine wp_region_ext (by kernel_rfl) (by kernel_rfl) ?_
    iterate 6 (go_big_quiet_step (fail))
    refine wpQuiet_nil ?_
    intro w7d hbd
    have HI7d := Lib.hid (HI7.out.below hbd)
    have HS1 := Lib.hid (keepRd hbd HS1.out)
    have HS2 := Lib.hid (keepRd hbd HS2.out)
    have HY1 := Lib.hid (HY1.out.below hbd)
    have HY2 := Lib.hid (HY2.out.below hbd)
    clear hbd E0 E1
    clear A0 A1 A2 A3 A4 A5 A6 B0 B1 B2 B3 B4 B5 B6 O0 O1 Z0 Z1 Z2 Z3 Z4 Z5 Z6 K0 K1 K2 K3 K4 K5 K6 hbe
    obtain ⟨⟨⟨A0, A1, A2, A3, A4, A5, A6⟩, _⟩, ⟨⟨B0, B1, B2, B3, B4, B5, B6⟩, _⟩, ⟨O0, O1⟩, ⟨⟨Z0, Z1, Z2, Z3, Z4, Z5, Z6⟩, K0, K1, K2, K3, K4, K5, K6⟩, _, _, _, hbe⟩ := HI7d.out
    rw [HFe.out.1, HFe.out.2]
    go_wp2_with fail
    have hwo := HWO.out
    refine (HMA.out HGA.out f t _ HI7d.out.ra hwo.1 (by omega) (by omega)).mono ?_
    rintro e w8 ⟨v8, rfl, o8, hb8⟩
    have HI8 := Lib.hid (HI7d.out.below hb8)
    have HS1 := Lib.hid (keepRd hb8 HS1.out)
    have HS2 := Lib.hid (keepRd hb8 HS2.out)
    have HY1 := Lib.hid (HY1.out.below hb8)
    have HY2 := Lib.hid (HY2.out.below hb8)
    obtain ⟨p8, q8, rfl, _⟩ := o8.form
    have HO8 := Lib.hid o8
    clear hb8 o8 hwo
    clear A0 A1 A2 A3 A4 A5 A6 B0 B1 B2 B3 B4 B5 B6 O0 O1 Z0 Z1 Z2 Z3 Z4 Z5 Z6 K0 K1 K2 K3 K4 K5 K6 hbe
    obtain ⟨⟨⟨A0, A1, A2, A3, A4, A5, A6⟩, _⟩, ⟨⟨B0, B1, B2, B3, B4, B5, B6⟩, _⟩, ⟨O0, O1⟩, ⟨⟨Z0, Z1, Z2, Z3, Z4, Z5, Z6⟩, K0, K1, K2, K3, K4, K5, K6⟩, _, _, _, hbe⟩ := HI8.out
    go_wp2_with fail
    have hwo := HWO.out
    refine (HMB.out HGB.out f t _ HI8.out.rb hwo.1 (by omega) (by omega)).mono ?_
    rintro e w9 ⟨v9, rfl, o9, hb9⟩
    have HI9 := Lib.hid (HI8.out.below hb9)
    have HS1 := Lib.hid (keepRd hb9 HS1.out)
    have HS2 := Lib.hid (keepRd hb9 HS2.out)
    have HY1 := Lib.hid (HY1.out.below hb9)
    have HY2 := Lib.hid (HY2.out.below hb9)
    have HO8 := Lib.hid (HO8.out.below hb9)
    obtain ⟨p9, q9, rfl, _⟩ := o9.form
    have HO9 := Lib.hid o9
    clear hb9 o9 hwo
    clear A0 A1 A2 A3 A4 A5 A6 B0 B1 B2 B3 B4 B5 B6 O0 O1 Z0 Z1 Z2 Z3 Z4 Z5 Z6 K0 K1 K2 K3 K4 K5 K6 hbe
    obtain ⟨⟨⟨A0, A1, A2, A3, A4, A5, A6⟩, _⟩, ⟨⟨B0, B1, B2, B3, B4, B5, B6⟩, _⟩, ⟨O0, O1⟩, ⟨⟨Z0, Z1, Z2, Z3, Z4, Z5, Z6⟩, K0, K1, K2, K3, K4, K5, K6⟩, _, _, _, hbe⟩ := HI9.out
    obtain ⟨xa, hxa⟩ : ∃ x, memF (hasS a) f (t - f).toNat = x := ⟨_, rfl⟩
    obtain ⟨xb, hxb⟩ : ∃ x, memF (hasS b) f (t - f).toNat = x := ⟨_, rfl⟩
    have HXA := Lib.hid hxa
    have HXB := Lib.hid hxb
    have HMLA : Hid (memL (hasS a) f t = if xa.length ≤ 2000 then xa else []) := by unfold Hid memL; rw [hxa]
    have HMLB : Hid (memL (hasS b) f t = if xb.length ≤ 2000 then xb else []) := by unfold Hid memL; rw [hxb]
    rw [hxa, hxb]
    clear hxa hxb
    by_cases h5 : ¬ xa.length + xb.length ≤ 2000
    ·
      have HM := Lib.hid (comb_full (kind := 2) HGA.out HGB.out HB1.out HB2.out HPE.out HWL.out HWR.out (by rw [HXA.out, HXB.out]; omega))
      by_cases h6 : xa.length ≤ 2000
      · have t6 : decide (xa.length ≤ 2000) = true := by simpa using h6
        have e6 : memL (hasS a) f t = xa := by rw [HMLA.out, if_pos h6]
        rw [t6, e6]
        by_cases h7 : xb.length ≤ 2000
        · have t7 : decide (xb.length ≤ 2000) = true := by simpa using h7
          have e7 : memL (hasS b) f t = xb := by rw [HMLB.out, if_pos h7]
          rw [t7, e7]
          have s5 : IntKind.i64.wrap ((xa.length : Int) + (xb.length : Int)) = (xa.length : Int) + (xb.length : Int) := by rw [IntKind.wrap_i64]; omega
          have t5 : decide ((2000 : Int) < (xa.length : Int) + (xb.length : Int)) = true := by simp; omega
          clear t6 t7 e6 e7
          go_wp2
          change bodyPost _ _ _ _ _ (put7 w9 (w.heap.size + 1 + 1 + 1) (.int .i64 0) (.slice none 0 0) (.int .i64 0) (.slice none 0 0) (.int .i64 0) (.int .i64 0) (.slice none 0 0))
          obtain ⟨r0, r1, r2, r3, r4, r5, r6⟩ := put7_at (.int .i64 0) (.slice none 0 0) (.int .i64 0) (.slice none 0 0) (.int .i64 0) (.int .i64 0) (.slice none 0 0) Z0 Z1 Z2 Z3 Z4 Z5 Z6
          have hBZ := put7_below (.int .i64 0) (.slice none 0 0) (.int .i64 0) (.slice none 0 0) (.int .i64 0) (.int .i64 0) (.slice none 0 0) hbe (b := (w.heap.size + 1 + 1 + 1)) (by omega)
          generalize put7 w9 (w.heap.size + 1 + 1 + 1) (.int .i64 0) (.slice none 0 0) (.int .i64 0) (.slice none 0 0) (.int .i64 0) (.int .i64 0) (.slice none 0 0) = Z at *
          refine bodyPost_ret (v := .tuple #[.agg #[.int .i64 0, .slice none 0 0, .int .i64 0, .slice none 0 0, .int .i64 0, .int .i64 0, .slice none 0 0], .int .i64 5]) (by simp [results, Tryz.results81, go_sem, r0, r1, r2, r3, r4, r5, r6]) rfl ?_
          show TsPost _ w _ _
          rw [HM.out]
          exact ⟨_, _, _, rfl, rdst_no _, hBZ⟩
        · have t7 : decide (xb.length ≤ 2000) = false := by simpa using h7
          rw [t7]
          clear t6 t7 e6
          go_wp2
          change bodyPost _ _ _ _ _ (put7 w9 (w.heap.size + 1 + 1 + 1) (.int .i64 0) (.slice none 0 0) (.int .i64 0) (.slice none 0 0) (.int .i64 0) (.int .i64 0) (.slice none 0 0))
          obtain ⟨r0, r1, r2, r3, r4, r5, r6⟩ := put7_at (.int .i64 0) (.slice none 0 0) (.int .i64 0) (.slice none 0 0) (.int .i64 0) (.int .i64 0) (.slice none 0 0) Z0 Z1 Z2 Z3 Z4 Z5 Z6
          have hBZ := put7_below (.int .i64 0) (.slice none 0 0) (.int .i64 0) (.slice none 0 0) (.int .i64 0) (.int .i64 0) (.slice none 0 0) hbe (b := (w.heap.size + 1 + 1 + 1)) (by omega)
          generalize put7 w9 (w.heap.size + 1 + 1 + 1) (.int .i64 0) (.slice none 0 0) (.int .i64 0) (.slice none 0 0) (.int .i64 0) (.int .i64 0) (.slice none 0 0) = Z at *
          refine bodyPost_ret (v := .tuple #[.agg #[.int .i64 0, .slice none 0 0, .int .i64 0, .slice none 0 0, .int .i64 0, .int .i64 0, .slice none 0 0], .int .i64 5]) (by simp [results, Tryz.results81, go_sem, r0, r1, r2, r3, r4, r5, r6]) rfl ?_
          show TsPost _ w _ _
          rw [HM.out]
          exact ⟨_, _, _, rfl, rdst_no _, hBZ⟩
      · have t6 : decide (xa.length ≤ 2000) = false := by simpa using h6
        rw [t6]
        clear t6
        go_wp2
        change bodyPost _ _ _ _ _ (put7 w9 (w.heap.size + 1 + 1 + 1) (.int .i64 0) (.slice none 0 0) (.int .i64 0) (.slice none 0 0) (.int .i64 0) (.int .i64 0) (.slice none 0 0))
        obtain ⟨r0, r1, r2, r3, r4, r5, r6⟩ := put7_at (.int .i64 0) (.slice none 0 0) (.int .i64 0) (.slice none 0 0) (.int .i64 0) (.int .i64 0) (.slice none 0 0) Z0 Z1 Z2 Z3 Z4 Z5 Z6
        have hBZ := put7_below (.int .i64 0) (.slice none 0 0) (.int .i64 0) (.slice none 0 0) (.int .i64 0) (.int .i64 0) (.slice none 0 0) hbe (b := (w.heap.size + 1 + 1 + 1)) (by omega)
        generalize put7 w9 (w.heap.size + 1 + 1 + 1) (.int .i64 0) (.slice none 0 0) (.int .i64 0) (.slice none 0 0) (.int .i64 0) (.int .i64 0) (.slice none 0 0) = Z at *
        refine bodyPost_ret (v := .tuple #[.agg #[.int .i64 0, .slice none 0 0, .int .i64 0, .slice none 0 0, .int .i64 0, .int .i64 0, .slice none 0 0], .int .i64 5]) (by simp [results, Tryz.results81, go_sem, r0, r1, r2, r3, r4, r5, r6]) rfl ?_
        show TsPost _ w _ _
        rw [HM.out]
        exact ⟨_, _, _, rfl, rdst_no _, hBZ⟩
    have h5 : xa.length + xb.length ≤ 2000 := by omega
    have t6 : decide (xa.length ≤ 2000) = true := by simp; omega
    have t7 : decide (xb.length ≤ 2000) = true := by simp; omega
    have e6 : memL (hasS a) f t = xa := by rw [HMLA.out, if_pos (by omega)]
    have e7 : memL (hasS b) f t = xb := by rw [HMLB.out, if_pos (by omega)]
    rw [t6, t7, e6, e7]
    rw [e6] at HO8
    rw [e7] at HO9
    clear t6 t7 e6 e7 HMLA HMLB
    have HFO := Lib.hid (comb_form (kind := 2) HGA.out HGB.out HB1.out HB2.out HPE.out HWL.out HWR.out (by rw [HXA.out, HXB.out]; omega))
    have HCL := Lib.hid (comb_lists (kind := 2) (ga := hasS a) (gb := hasS b) HWO.out.1 HWO.out.2.1 HWO.out.2.2 (by rw [HXA.out, HXB.out]; exact h5))
    rw [HXA.out, HXB.out] at HCL
    obtain ⟨L, hL⟩ : ∃ L, memF (fun x => ruleB 2 (hasS a x) (hasS b x)) f (t - f).toNat = L := ⟨_, rfl⟩
    rw [hL] at HCL HFO
    have HOK : Hid (OkS ⟨(P1, l1), (P2, l2), f, t, L⟩) := by
      rw [← hL]
      exact comb_ok HQ1.out.2.2.1 HQ2.out.2.2.1 HWO.out.1 HWO.out.2.1 HWO.out.2.2 (by rw [hL]; exact HCL.out.2)
    clear hL
    have s5 : IntKind.i64.wrap ((xa.length : Int) + (xb.length : Int)) = (xa.length : Int) + (xb.length : Int) := by rw [IntKind.wrap_i64]; omega
    have t5 : decide ((2000 : Int) < (xa.length : Int) + (xb.length : Int)) = false := by simp; omega
    have HRO := Lib.hid (fun W h h' => runs_Minus_any (.slice p8 xa.length q8) (.slice p9 xb.length q9) xa xb W h h')
    have HR8 := Lib.hid (HO8.out.rd (by omega))
    have HR9 := Lib.hid (HO9.out.rd (by omega))
    go_wp2_with fail
    refine (HRO.out _ HR8.out HR9.out).mono ?_
    rintro e w10 ⟨v10, rfl, o10, hb10⟩
    rw [HCL.out.1] at o10 ⊢
    simp only at o10 ⊢
    have HI10 := Lib.hid (HI9.out.below hb10)
    have HS1 := Lib.hid (keepRd hb10 HS1.out)
    have HS2 := Lib.hid (keepRd hb10 HS2.out)
    have HY1 := Lib.hid (HY1.out.below hb10)
    have HY2 := Lib.hid (HY2.out.below hb10)
    obtain ⟨p10, q10, rfl, _⟩ := o10.form
    have HO10 := Lib.hid (o10.rd (by have := HCL.out.2; omega))
    clear hb10 o10 HI9 HO8 HO9 HR8 HR9
    clear A0 A1 A2 A3 A4 A5 A6 B0 B1 B2 B3 B4 B5 B6 O0 O1 Z0 Z1 Z2 Z3 Z4 Z5 Z6 K0 K1 K2 K3 K4 K5 K6 hbe
    obtain ⟨⟨⟨A0, A1, A2, A3, A4, A5, A6⟩, _⟩, ⟨⟨B0, B1, B2, B3, B4, B5, B6⟩, _⟩, ⟨O0, O1⟩, ⟨⟨Z0, Z1, Z2, Z3, Z4, Z5, Z6⟩, K0, K1, K2, K3, K4, K5, K6⟩, _, _, _, hbe⟩ := HI10.out
    obtain ⟨⟨x0, x1⟩, _⟩ := HY1.out
    obtain ⟨⟨y0, y1⟩, _⟩ := HY2.out
    have HFF := Lib.hid (fun W h => form_any ⟨(P1, l1), (P2, l2), f, t, L⟩ (.slice p1 l1.length q1) (.slice p2 l2.length q2) (.slice p10 L.length q10) W h HOK.out)
    have HPF := Lib.hid (pos_form HOK.out)
    go_wp2_with fail
    refine (HFF.out _ ⟨HS1.out, HS2.out, HO10.out⟩).mono ?_
    rintro e w11 ⟨vl, vr, vv, rfl, hr, hb11⟩
    obtain ⟨T, hT⟩ : ∃ T, formF ⟨(P1, l1), (P2, l2), f, t, L⟩ = T := ⟨_, rfl⟩
    rw [hT] at HPF HFO hr ⊢
    clear hT
    have HI11 := Lib.hid (HI10.out.below hb11)
    obtain ⟨c1, d1, rfl⟩ := hr.1.form
    obtain ⟨c2, d2, rfl⟩ := hr.2.1.form
    obtain ⟨c3, d3, rfl⟩ := hr.2.2.form
    have HRR := Lib.hid hr
    clear hb11 hr x0 x1 y0 y1
    clear A0 A1 A2 A3 A4 A5 A6 B0 B1 B2 B3 B4 B5 B6 O0 O1 Z0 Z1 Z2 Z3 Z4 Z5 Z6 K0 K1 K2 K3 K4 K5 K6 hbe
    obtain ⟨⟨⟨A0, A1, A2, A3, A4, A5, A6⟩, _⟩, ⟨⟨B0, B1, B2, B3, B4, B5, B6⟩, _⟩, ⟨O0, O1⟩, ⟨⟨Z0, Z1, Z2, Z3, Z4, Z5, Z6⟩, K0, K1, K2, K3, K4, K5, K6⟩, _, _, _, hbe⟩ := HI11.out
    go_wp2
    change bodyPost _ _ _ _ _ (put7 w11 (w.heap.size + 1 + 1 + 1) (.int .i64 T.1.lf.1) (.slice c1 T.1.lf.2.length d1) (.int .i64 T.1.rt.1) (.slice c2 T.1.rt.2.length d2) (.int .i64 T.1.fr) (.int .i64 T.1.to) (.slice c3 T.1.l.length d3))
    obtain ⟨r0, r1, r2, r3, r4, r5, r6⟩ := put7_at (.int .i64 T.1.lf.1) (.slice c1 T.1.lf.2.length d1) (.int .i64 T.1.rt.1) (.slice c2 T.1.rt.2.length d2) (.int .i64 T.1.fr) (.int .i64 T.1.to) (.slice c3 T.1.l.length d3) Z0 Z1 Z2 Z3 Z4 Z5 Z6
    have hBZ := put7_below (.int .i64 T.1.lf.1) (.slice c1 T.1.lf.2.length d1) (.int .i64 T.1.rt.1) (.slice c2 T.1.rt.2.length d2) (.int .i64 T.1.fr) (.int .i64 T.1.to) (.slice c3 T.1.l.length d3) hbe (b := w.heap.size + 1 + 1 + 1) (by omega)
    have hRZ := HRR.out.put (.int .i64 T.1.lf.1) (.slice c1 T.1.lf.2.length d1) (.int .i64 T.1.rt.1) (.slice c2 T.1.rt.2.length d2) (.int .i64 T.1.fr) (.int .i64 T.1.to) (.slice c3 T.1.l.length d3) HPF.out HI11.out.zz
    generalize put7 w11 (w.heap.size + 1 + 1 + 1) (.int .i64 T.1.lf.1) (.slice c1 T.1.lf.2.length d1) (.int .i64 T.1.rt.1) (.slice c2 T.1.rt.2.length d2) (.int .i64 T.1.fr) (.int .i64 T.1.to) (.slice c3 T.1.l.length d3) = Z at *
    refine bodyPost_ret (v := .tuple #[.agg #[.int .i64 T.1.lf.1, .slice c1 T.1.lf.2.length d1, .int .i64 T.1.rt.1, .slice c2 T.1.rt.2.length d2, .int .i64 T.1.fr, .int .i64 T.1.to, .slice c3 T.1.l.length d3], .int .i64 T.2]) (by simp [results, Tryz.results81, go_sem, r0, r1, r2, r3, r4, r5, r6]) rfl ?_
    show TsPost _ w _ _
    rw [HFO.out]
    exact ⟨_, _, _, rfl, hRZ, hBZ⟩
  | false =>
    go_wp2_with fail
    refine (HIB.out _ HI7.out.rb).mono ?_
    rintro e w7b ⟨rfl, hb7⟩
    have HI7b := Lib.hid (HI7.out.below hb7)
    have HS1 := Lib.hid (keepRd hb7 HS1.out)
    have HS2 := Lib.hid (keepRd hb7 HS2.out)
    have HY1 := Lib.hid (HY1.out.below hb7)
    have HY2 := Lib.hid (HY2.out.below hb7)
    clear hb7 HI7
    clear A0 A1 A2 A3 A4 A5 A6 B0 B1 B2 B3 B4 B5 B6 O0 O1 Z0 Z1 Z2 Z3 Z4 Z5 Z6 K0 K1 K2 K3 K4 K5 K6 hbe
    obtain ⟨⟨⟨A0, A1, A2, A3, A4, A5, A6⟩, _⟩, ⟨⟨B0, B1, B2, B3, B4, B5, B6⟩, _⟩, ⟨O0, O1⟩, ⟨⟨Z0, Z1, Z2, Z3, Z4, Z5, Z6⟩, K0, K1, K2, K3, K4, K5, K6⟩, _, _, _, hbe⟩ := HI7b.out
    cases pb with
    | true =>
      have HFe : Hid (a.fr = f ∧ a.to = t) := ⟨by have := HWL.out; unfold winL at this; rwa [if_neg (by rw [HPA.out]; simp), if_pos HPB.out] at this, by have := HWR.out; unfold winR at this; rwa [if_neg (by rw [HPA.out]; simp), if_pos HPB.out] at this⟩
      have E0 := ext_cell A4
      have E1 := ext_cell A5
      go_wp2_with fail
      refine wp_region_ext (by kernel_rfl) (by kernel_rfl) ?_
      iterate 6 (go_big_quiet_step (fail))
      refine wpQuiet_nil ?_
      intro w7d hbd
      have HI7d := Lib.hid (HI7b.out.below hbd)
      have HS1 := Lib.hid (keepRd hbd HS1.out)
      have HS2 := Lib.hid (keepRd hbd HS2.out)
      have HY1 := Lib.hid (HY1.out.below hbd)
      have HY2 := Lib.hid (HY2.out.below hbd)
      clear hbd E0 E1
      clear A0 A1 A2 A3 A4 A5 A6 B0 B1 B2 B3 B4 B5 B6 O0 O1 Z0 Z1 Z2 Z3 Z4 Z5 Z6 K0 K1 K2 K3 K4 K5 K6 hbe
      obtain ⟨⟨⟨A0, A1, A2, A3, A4, A5, A6⟩, _⟩, ⟨⟨B0, B1, B2, B3, B4, B5, B6⟩, _⟩, ⟨O0, O1⟩, ⟨⟨Z0, Z1, Z2, Z3, Z4, Z5, Z6⟩, K0, K1, K2, K3, K4, K5, K6⟩, _, _, _, hbe⟩ := HI7d.out
      rw [HFe.out.1, HFe.out.2]
      go_wp2_with fail
      have hwo := HWO.out
      refine (HMA.out HGA.out f t _ HI7d.out.ra hwo.1 (by omega) (by omega)).mono ?_
      rintro e w8 ⟨v8, rfl, o8, hb8⟩
      have HI8 := Lib.hid (HI7d.out.below hb8)
      have HS1 := Lib.hid (keepRd hb8 HS1.out)
      have HS2 := Lib.hid (keepRd hb8 HS2.out)
      have HY1 := Lib.hid (HY1.out.below hb8)
      have HY2 := Lib.hid (HY2.out.below hb8)
      obtain ⟨p8, q8, rfl, _⟩ := o8.form
      have HO8 := Lib.hid o8
      clear hb8 o8 hwo
      clear A0 A1 A2 A3 A4 A5 A6 B0 B1 B2 B3 B4 B5 B6 O0 O1 Z0 Z1 Z2 Z3 Z4 Z5 Z6 K0 K1 K2 K3 K4 K5 K6 hbe
      obtain ⟨⟨⟨A0, A1, A2, A3, A4, A5, A6⟩, _⟩, ⟨⟨B0, B1, B2, B3, B4, B5, B6⟩, _⟩, ⟨O0, O1⟩, ⟨⟨Z0, Z1, Z2, Z3, Z4, Z5, Z6⟩, K0, K1, K2, K3, K4, K5, K6⟩, _, _, _, hbe⟩ := HI8.out
      go_wp2_with fail
      have hwo := HWO.out
      refine (HMB.out HGB.out f t _ HI8.out.rb hwo.1 (by omega) (by omega)).mono ?_
      rintro e w9 ⟨v9, rfl, o9, hb9⟩
      have HI9 := Lib.hid (HI8.out.below hb9)
      have HS1 := Lib.hid (keepRd hb9 HS1.out)
      have HS2 := Lib.hid (keepRd hb9 HS2.out)
      have HY1 := Lib.hid (HY1.out.below hb9)
      have HY2 := Lib.hid (HY2.out.below hb9)
      have HO8 := Lib.hid (HO8.out.below hb9)
      obtain ⟨p9, q9, rfl, _⟩ := o9.form
      have HO9 := Lib.hid o9
      clear hb9 o9 hwo
      clear A0 A1 A2 A3 A4 A5 A6 B0 B1 B2 B3 B4 B5 B6 O0 O1 Z0 Z1 Z2 Z3 Z4 Z5 Z6 K0 K1 K2 K3 K4 K5 K6 hbe
      obtain ⟨⟨⟨A0, A1, A2, A3, A4, A5, A6⟩, _⟩, ⟨⟨B0, B1, B2, B3, B4, B5, B6⟩, _⟩, ⟨O0, O1⟩, ⟨⟨Z0, Z1, Z2, Z3, Z4, Z5, Z6⟩, K0, K1, K2, K3, K4, K5, K6⟩, _, _, _, hbe⟩ := HI9.out
      obtain ⟨xa, hxa⟩ : ∃ x, memF (hasS a) f (t - f).toNat = x := ⟨_, rfl⟩
      obtain ⟨xb, hxb⟩ : ∃ x, memF (hasS b) f (t - f).toNat = x := ⟨_, rfl⟩
      have HXA := Lib.hid hxa
      have HXB := Lib.hid hxb
      have HMLA : Hid (memL (hasS a) f t = if xa.length ≤ 2000 then xa else []) := by unfold Hid memL; rw [hxa]
      have HMLB : Hid (memL (hasS b) f t = if xb.length ≤ 2000 then xb else []) := by unfold Hid memL; rw [hxb]
      rw [hxa, hxb]
      clear hxa hxb
      by_cases h5 : ¬ xa.length + xb.length ≤ 2000
      ·
        have HM := Lib.hid (comb_full (kind := 2) HGA.out HGB.out HB1.out HB2.out HPE.out HWL.out HWR.out (by rw [HXA.out, HXB.out]; omega))
        by_cases h6 : xa.length ≤ 2000
        · have t6 : decide (xa.length ≤ 2000) = true := by simpa using h6
          have e6 : memL (hasS a) f t = xa := by rw [HMLA.out, if_pos h6]
          rw [t6, e6]
          by_cases h7 : xb.length ≤ 2000
          · have t7 : decide (xb.length ≤ 2000) = true := by simpa using h7
            have e7 : memL (hasS b) f t = xb := by rw [HMLB.out, if_pos h7]
            rw [t7, e7]
            have s5 : IntKind.i64.wrap ((xa.length : Int) + (xb.length : Int)) = (xa.length : Int) + (xb.length : Int) := by rw [IntKind.wrap_i64]; omega
            have t5 : decide ((2000 : Int) < (xa.length : Int) + (xb.length : Int)) = true := by simp; omega
            clear t6 t7 e6 e7
            go_wp2
            change bodyPost _ _ _ _ _ (put7 w9 (w.heap.size + 1 + 1 + 1) (.int .i64 0) (.slice none 0 0) (.int .i64 0) (.slice none 0 0) (.int .i64 0) (.int .i64 0) (.slice none 0 0))
            obtain ⟨r0, r1, r2, r3, r4, r5, r6⟩ := put7_at (.int .i64 0) (.slice none 0 0) (.int .i64 0) (.slice none 0 0) (.int .i64 0) (.int .i64 0) (.slice none 0 0) Z0 Z1 Z2 Z3 Z4 Z5 Z6
            have hBZ := put7_below (.int .i64 0) (.slice none 0 0) (.int .i64 0) (.slice none 0 0) (.int .i64 0) (.int .i64 0) (.slice none 0 0) hbe (b := (w.heap.size + 1 + 1 + 1)) (by omega)
            generalize put7 w9 (w.heap.size + 1 + 1 + 1) (.int .i64 0) (.slice none 0 0) (.int .i64 0) (.slice none 0 0) (.int .i64 0) (.int .i64 0) (.slice none 0 0) = Z at *
            refine bodyPost_ret (v := .tuple #[.agg #[.int .i64 0, .slice none 0 0, .int .i64 0, .slice none 0 0, .int .i64 0, .int .i64 0, .slice none 0 0], .int .i64 5]) (by simp [results, Tryz.results81, go_sem, r0, r1, r2, r3, r4, r5, r6]) rfl ?_
            show TsPost _ w _ _
            rw [HM.out]
            exact ⟨_, _, _, rfl, rdst_no _, hBZ⟩
          · have t7 : decide (xb.length ≤ 2000) = false := by simpa using h7
            rw [t7]
            clear t6 t7 e6
            go_wp2
            change bodyPost _ _ _ _ _ (put7 w9 (w.heap.size + 1 + 1 + 1) (.int .i64 0) (.slice none 0 0) (.int .i64 0) (.slice none 0 0) (.int .i64 0) (.int .i64 0) (.slice none 0 0))
            obtain ⟨r0, r1, r2, r3, r4, r5, r6⟩ := put7_at (.int .i64 0) (.slice none 0 0) (.int .i64 0) (.slice none 0 0) (.int .i64 0) (.int .i64 0) (.slice none 0 0) Z0 Z1 Z2 Z3 Z4 Z5 Z6
            have hBZ := put7_below (.int .i64 0) (.slice none 0 0) (.int .i64 0) (.slice none 0 0) (.int .i64 0) (.int .i64 0) (.slice none 0 0) hbe (b := (w.heap.size + 1 + 1 + 1)) (by omega)
            generalize put7 w9 (w.heap.size + 1 + 1 + 1) (.int .i64 0) (.slice none 0 0) (.int .i64 0) (.slice none 0 0) (.int .i64 0) (.int .i64 0) (.slice none 0 0) = Z at *
            refine bodyPost_ret (v := .tuple #[.agg #[.int .i64 0, .slice none 0 0, .int .i64 0, .slice none 0 0, .int .i64 0, .int .i64 0, .slice none 0 0], .int .i64 5]) (by simp [results, Tryz.results81, go_sem, r0, r1, r2, r3, r4, r5, r6]) rfl ?_
            show TsPost _ w _ _
            rw [HM.out]
            exact ⟨_, _, _, rfl, rdst_no _, hBZ⟩
        · have t6 : decide (xa.length ≤ 2000) = false := by simpa using h6
          rw [t6]
          clear t6
          go_wp2
          change bodyPost _ _ _ _ _ (put7 w9 (w.heap.size + 1 + 1 + 1) (.int .i64 0) (.slice none 0 0) (.int .i64 0) (.slice none 0 0) (.int .i64 0) (.int .i64 0) (.slice none 0 0))
          obtain ⟨r0, r1, r2, r3, r4, r5, r6⟩ := put7_at (.int .i64 0) (.slice none 0 0) (.int .i64 0) (.slice none 0 0) (.int .i64 0) (.int .i64 0) (.slice none 0 0) Z0 Z1 Z2 Z3 Z4 Z5 Z6
          have hBZ := put7_below (.int .i64 0) (.slice none 0 0) (.int .i64 0) (.slice none 0 0) (.int .i64 0) (.int .i64 0) (.slice none 0 0) hbe (b := (w.heap.size + 1 + 1 + 1)) (by omega)
          generalize put7 w9 (w.heap.size + 1 + 1 + 1) (.int .i64 0) (.slice none 0 0) (.int .i64 0) (.slice none 0 0) (.int .i64 0) (.int .i64 0) (.slice none 0 0) = Z at *
          refine bodyPost_ret (v := .tuple #[.agg #[.int .i64 0, .slice none 0 0, .int .i64 0, .slice none 0 0, .int .i64 0, .int .i64 0, .slice none 0 0], .int .i64 5]) (by simp [results, Tryz.results81, go_sem, r0, r1, r2, r3, r4, r5, r6]) rfl ?_
          show TsPost _ w _ _
          rw [HM.out]
          exact ⟨_, _, _, rfl, rdst_no _, hBZ⟩
      have h5 : xa.length + xb.length ≤ 2000 := by omega
      have t6 : decide (xa.length ≤ 2000) = true := by simp; omega
      have t7 : decide (xb.length ≤ 2000) = true := by simp; omega
      have e6 : memL (hasS a) f t = xa := by rw [HMLA.out, if_pos (by omega)]
      have e7 : memL (hasS b) f t = xb := by rw [HMLB.out, if_pos (by omega)]
      rw [t6, t7, e6, e7]
      rw [e6] at HO8
      rw [e7] at HO9
      clear t6 t7 e6 e7 HMLA HMLB
      have HFO := Lib.hid (comb_form (kind := 2) HGA.out HGB.out HB1.out HB2.out HPE.out HWL.out HWR.out (by rw [HXA.out, HXB.out]; omega))
      have HCL := Lib.hid (comb_lists (kind := 2) (ga := hasS a) (gb := hasS b) HWO.out.1 HWO.out.2.1 HWO.out.2.2 (by rw [HXA.out, HXB.out]; exact h5))
      rw [HXA.out, HXB.out] at HCL
      obtain ⟨L, hL⟩ : ∃ L, memF (fun x => ruleB 2 (hasS a x) (hasS b x)) f (t - f).toNat = L := ⟨_, rfl⟩
      rw [hL] at HCL HFO
      have HOK : Hid (OkS ⟨(P1, l1), (P2, l2), f, t, L⟩) := by
        rw [← hL]
        exact comb_ok HQ1.out.2.2.1 HQ2.out.2.2.1 HWO.out.1 HWO.out.2.1 HWO.out.2.2 (by rw [hL]; exact HCL.out.2)
      clear hL
      have s5 : IntKind.i64.wrap ((xa.length : Int) + (xb.length : Int)) = (xa.length : Int) + (xb.length : Int) := by rw [IntKind.wrap_i64]; omega
      have t5 : decide ((2000 : Int) < (xa.length : Int) + (xb.length : Int)) = false := by simp; omega
      have HRO := Lib.hid (fun W h h' => runs_Minus_any (.slice p8 xa.length q8) (.slice p9 xb.length q9) xa xb W h h')
      have HR8 := Lib.hid (HO8.out.rd (by omega))
      have HR9 := Lib.hid (HO9.out.rd (by omega))
      go_wp2_with fail
      refine (HRO.out _ HR8.out HR9.out).mono ?_
      rintro e w10 ⟨v10, rfl, o10, hb10⟩
      rw [HCL.out.1] at o10 ⊢
      simp only at o10 ⊢
      have HI10 := Lib.hid (HI9.out.below hb10)
      have HS1 := Lib.hid (keepRd hb10 HS1.out)
      have HS2 := Lib.hid (keepRd hb10 HS2.out)
      have HY1 := Lib.hid (HY1.out.below hb10)
      have HY2 := Lib.hid (HY2.out.below hb10)
      obtain ⟨p10, q10, rfl, _⟩ := o10.form
      have HO10 := Lib.hid (o10.rd (by have := HCL.out.2; omega))
      clear hb10 o10 HI9 HO8 HO9 HR8 HR9
      clear A0 A1 A2 A3 A4 A5 A6 B0 B1 B2 B3 B4 B5 B6 O0 O1 Z0 Z1 Z2 Z3 Z4 Z5 Z6 K0 K1 K2 K3 K4 K5 K6 hbe
      obtain ⟨⟨⟨A0, A1, A2, A3, A4, A5, A6⟩, _⟩, ⟨⟨B0, B1, B2, B3, B4, B5, B6⟩, _⟩, ⟨O0, O1⟩, ⟨⟨Z0, Z1, Z2, Z3, Z4, Z5, Z6⟩, K0, K1, K2, K3, K4, K5, K6⟩, _, _, _, hbe⟩ := HI10.out
      obtain ⟨⟨x0, x1⟩, _⟩ := HY1.out
      obtain ⟨⟨y0, y1⟩, _⟩ := HY2.out
      have HFF := Lib.hid (fun W h => form_any ⟨(P1, l1), (P2, l2), f, t, L⟩ (.slice p1 l1.length q1) (.slice p2 l2.length q2) (.slice p10 L.length q10) W h HOK.out)
      have HPF := Lib.hid (pos_form HOK.out)
      go_wp2_with fail
      refine (HFF.out _ ⟨HS1.out, HS2.out, HO10.out⟩).mono ?_
      rintro e w11 ⟨vl, vr, vv, rfl, hr, hb11⟩
      obtain ⟨T, hT⟩ : ∃ T, formF ⟨(P1, l1), (P2, l2), f, t, L⟩ = T := ⟨_, rfl⟩
      rw [hT] at HPF HFO hr ⊢
      clear hT
      have HI11 := Lib.hid (HI10.out.below hb11)
      obtain ⟨c1, d1, rfl⟩ := hr.1.form
      obtain ⟨c2, d2, rfl⟩ := hr.2.1.form
      obtain ⟨c3, d3, rfl⟩ := hr.2.2.form
      have HRR := Lib.hid hr
      clear hb11 hr x0 x1 y0 y1
      clear A0 A1 A2 A3 A4 A5 A6 B0 B1 B2 B3 B4 B5 B6 O0 O1 Z0 Z1 Z2 Z3 Z4 Z5 Z6 K0 K1 K2 K3 K4 K5 K6 hbe
      obtain ⟨⟨⟨A0, A1, A2, A3, A4, A5, A6⟩, _⟩, ⟨⟨B0, B1, B2, B3, B4, B5, B6⟩, _⟩, ⟨O0, O1⟩, ⟨⟨Z0, Z1, Z2, Z3, Z4, Z5, Z6⟩, K0, K1, K2, K3, K4, K5, K6⟩, _, _, _, hbe⟩ := HI11.out
      go_wp2
      change bodyPost _ _ _ _ _ (put7 w11 (w.heap.size + 1 + 1 + 1) (.int .i64 T.1.lf.1) (.slice c1 T.1.lf.2.length d1) (.int .i64 T.1.rt.1) (.slice c2 T.1.rt.2.length d2) (.int .i64 T.1.fr) (.int .i64 T.1.to) (.slice c3 T.1.l.length d3))
      obtain ⟨r0, r1, r2, r3, r4, r5, r6⟩ := put7_at (.int .i64 T.1.lf.1) (.slice c1 T.1.lf.2.length d1) (.int .i64 T.1.rt.1) (.slice c2 T.1.rt.2.length d2) (.int .i64 T.1.fr) (.int .i64 T.1.to) (.slice c3 T.1.l.length d3) Z0 Z1 Z2 Z3 Z4 Z5 Z6
      have hBZ := put7_below (.int .i64 T.1.lf.1) (.slice c1 T.1.lf.2.length d1) (.int .i64 T.1.rt.1) (.slice c2 T.1.rt.2.length d2) (.int .i64 T.1.fr) (.int .i64 T.1.to) (.slice c3 T.1.l.length d3) hbe (b := w.heap.size + 1 + 1 + 1) (by omega)
      have hRZ := HRR.out.put (.int .i64 T.1.lf.1) (.slice c1 T.1.lf.2.length d1) (.int .i64 T.1.rt.1) (.slice c2 T.1.rt.2.length d2) (.int .i64 T.1.fr) (.int .i64 T.1.to) (.slice c3 T.1.l.length d3) HPF.out HI11.out.zz
      generalize put7 w11 (w.heap.size + 1 + 1 + 1) (.int .i64 T.1.lf.1) (.slice c1 T.1.lf.2.length d1) (.int .i64 T.1.rt.1) (.slice c2 T.1.rt.2.length d2) (.int .i64 T.1.fr) (.int .i64 T.1.to) (.slice c3 T.1.l.length d3) = Z at *
      refine bodyPost_ret (v := .tuple #[.agg #[.int .i64 T.1.lf.1, .slice c1 T.1.lf.2.length d1, .int .i64 T.1.rt.1, .slice c2 T.1.rt.2.length d2, .int .i64 T.1.fr, .int .i64 T.1.to, .slice c3 T.1.l.length d3], .int .i64 T.2]) (by simp [results, Tryz.results81, go_sem, r0, r1, r2, r3, r4, r5, r6]) rfl ?_
      show TsPost _ w _ _
      rw [HFO.out]
      exact ⟨_, _, _, rfl, hRZ, hBZ⟩
    | false =>
      have HFe : Hid (fm = f ∧ tm = t) := ⟨by have := HWL.out; unfold winL at this; rw [if_neg (by rw [HPA.out]; simp), if_neg (by rw [HPB.out]; simp), HFM.out] at this; exact this, by have := HWR.out; unfold winR at this; rw [if_neg (by rw [HPA.out]; simp), if_neg (by rw [HPB.out]; simp), HTM.out] at this; exact this⟩
      rw [HFe.out.1, HFe.out.2]
      go_wp2_with fail
      have hwo := HWO.out
      refine (HMA.out HGA.out f t _ HI7b.out.ra hwo.1 (by omega) (by omega)).mono ?_
      rintro e w8 ⟨v8, rfl, o8, hb8⟩
      have HI8 := Lib.hid (HI7b.out.below hb8)
      have HS1 := Lib.hid (keepRd hb8 HS1.out)
      have HS2 := Lib.hid (keepRd hb8 HS2.out)
      have HY1 := Lib.hid (HY1.out.below hb8)
      have HY2 := Lib.hid (HY2.out.below hb8)
      obtain ⟨p8, q8, rfl, _⟩ := o8.form
      have HO8 := Lib.hid o8
      clear hb8 o8 hwo
      clear A0 A1 A2 A3 A4 A5 A6 B0 B1 B2 B3 B4 B5 B6 O0 O1 Z0 Z1 Z2 Z3 Z4 Z5 Z6 K0 K1 K2 K3 K4 K5 K6 hbe
      obtain ⟨⟨⟨A0, A1, A2, A3, A4, A5, A6⟩, _⟩, ⟨⟨B0, B1, B2, B3, B4, B5, B6⟩, _⟩, ⟨O0, O1⟩, ⟨⟨Z0, Z1, Z2, Z3, Z4, Z5, Z6⟩, K0, K1, K2, K3, K4, K5, K6⟩, _, _, _, hbe⟩ := HI8.out
      go_wp2_with fail
      have hwo := HWO.out
      refine (HMB.out HGB.out f t _ HI8.out.rb hwo.1 (by omega) (by omega)).mono ?_
      rintro e w9 ⟨v9, rfl, o9, hb9⟩
      have HI9 := Lib.hid (HI8.out.below hb9)
      have HS1 := Lib.hid (keepRd hb9 HS1.out)
      have HS2 := Lib.hid (keepRd hb9 HS2.out)
      have HY1 := Lib.hid (HY1.out.below hb9)
      have HY2 := Lib.hid (HY2.out.below hb9)
      have HO8 := Lib.hid (HO8.out.below hb9)
      obtain ⟨p9, q9, rfl, _⟩ := o9.form
      have HO9 := Lib.hid o9
      clear hb9 o9 hwo
      clear A0 A1 A2 A3 A4 A5 A6 B0 B1 B2 B3 B4 B5 B6 O0 O1 Z0 Z1 Z2 Z3 Z4 Z5 Z6 K0 K1 K2 K3 K4 K5 K6 hbe
      obtain ⟨⟨⟨A0, A1, A2, A3, A4, A5, A6⟩, _⟩, ⟨⟨B0, B1, B2, B3, B4, B5, B6⟩, _⟩, ⟨O0, O1⟩, ⟨⟨Z0, Z1, Z2, Z3, Z4, Z5, Z6⟩, K0, K1, K2, K3, K4, K5, K6⟩, _, _, _, hbe⟩ := HI9.out
      obtain ⟨xa, hxa⟩ : ∃ x, memF (hasS a) f (t - f).toNat = x := ⟨_, rfl⟩
      obtain ⟨xb, hxb⟩ : ∃ x, memF (hasS b) f (t - f).toNat = x := ⟨_, rfl⟩
      have HXA := Lib.hid hxa
      have HXB := Lib.hid hxb
      have HMLA : Hid (memL (hasS a) f t = if xa.length ≤ 2000 then xa else []) := by unfold Hid memL; rw [hxa]
      have HMLB : Hid (memL (hasS b) f t = if xb.length ≤ 2000 then xb else []) := by unfold Hid memL; rw [hxb]
      rw [hxa, hxb]
      clear hxa hxb
      by_cases h5 : ¬ xa.length + xb.length ≤ 2000
      ·
        have HM := Lib.hid (comb_full (kind := 2) HGA.out HGB.out HB1.out HB2.out HPE.out HWL.out HWR.out (by rw [HXA.out, HXB.out]; omega))
        by_cases h6 : xa.length ≤ 2000
        · have t6 : decide (xa.length ≤ 2000) = true := by simpa using h6
          have e6 : memL (hasS a) f t = xa := by rw [HMLA.out, if_pos h6]
          rw [t6, e6]
          by_cases h7 : xb.length ≤ 2000
          · have t7 : decide (xb.length ≤ 2000) = true := by simpa using h7
            have e7 : memL (hasS b) f t = xb := by rw [HMLB.out, if_pos h7]
            rw [t7, e7]
            have s5 : IntKind.i64.wrap ((xa.length : Int) + (xb.length : Int)) = (xa.length : Int) + (xb.length : Int) := by rw [IntKind.wrap_i64]; omega
            have t5 : decide ((2000 : Int) < (xa.length : Int) + (xb.length : Int)) = true := by simp; omega
            clear t6 t7 e6 e7
            go_wp2
            change bodyPost _ _ _ _ _ (put7 w9 (w.heap.size + 1 + 1 + 1) (.int .i64 0) (.slice none 0 0) (.int .i64 0) (.slice none 0 0) (.int .i64 0) (.int .i64 0) (.slice none 0 0))
            obtain ⟨r0, r1, r2, r3, r4, r5, r6⟩ := put7_at (.int .i64 0) (.slice none 0 0) (.int .i64 0) (.slice none 0 0) (.int .i64 0) (.int .i64 0) (.slice none 0 0) Z0 Z1 Z2 Z3 Z4 Z5 Z6
            have hBZ := put7_below (.int .i64 0) (.slice none 0 0) (.int .i64 0) (.slice none 0 0) (.int .i64 0) (.int .i64 0) (.slice none 0 0) hbe (b := (w.heap.size + 1 + 1 + 1)) (by omega)
            generalize put7 w9 (w.heap.size + 1 + 1 + 1) (.int .i64 0) (.slice none 0 0) (.int .i64 0) (.slice none 0 0) (.int .i64 0) (.int .i64 0) (.slice none 0 0) = Z at *
            refine bodyPost_ret (v := .tuple #[.agg #[.int .i64 0, .slice none 0 0, .int .i64 0, .slice none 0 0, .int .i64 0, .int .i64 0, .slice none 0 0], .int .i64 5]) (by simp [results, Tryz.results81, go_sem, r0, r1, r2, r3, r4, r5, r6]) rfl ?_
            show TsPost _ w _ _
            rw [HM.out]
            exact ⟨_, _, _, rfl, rdst_no _, hBZ⟩
          · have t7 : decide (xb.length ≤ 2000) = false := by simpa using h7
            rw [t7]
            clear t6 t7 e6
            go_wp2
            change bodyPost _ _ _ _ _ (put7 w9 (w.heap.size + 1 + 1 + 1) (.int .i64 0) (.slice none 0 0) (.int .i64 0) (.slice none 0 0) (.int .i64 0) (.int .i64 0) (.slice none 0 0))
            obtain ⟨r0, r1, r2, r3, r4, r5, r6⟩ := put7_at (.int .i64 0) (.slice none 0 0) (.int .i64 0) (.slice none 0 0) (.int .i64 0) (.int .i64 0) (.slice none 0 0) Z0 Z1 Z2 Z3 Z4 Z5 Z6
            have hBZ := put7_below (.int .i64 0) (.slice none 0 0) (.int .i64 0) (.slice none 0 0) (.int .i64 0) (.int .i64 0) (.slice none 0 0) hbe (b := (w.heap.size + 1 + 1 + 1)) (by omega)
            generalize put7 w9 (w.heap.size + 1 + 1 + 1) (.int .i64 0) (.slice none 0 0) (.int .i64 0) (.slice none 0 0) (.int .i64 0) (.int .i64 0) (.slice none 0 0) = Z at *
            refine bodyPost_ret (v := .tuple #[.agg #[.int .i64 0, .slice none 0 0, .int .i64 0, .slice none 0 0, .int .i64 0, .int .i64 0, .slice none 0 0], .int .i64 5]) (by simp [results, Tryz.results81, go_sem, r0, r1, r2, r3, r4, r5, r6]) rfl ?_
            show TsPost _ w _ _
            rw [HM.out]
            exact ⟨_, _, _, rfl, rdst_no _, hBZ⟩
        · have t6 : decide (xa.length ≤ 2000) = false := by simpa using h6
          rw [t6]
          clear t6
          go_wp2
          change bodyPost _ _ _ _ _ (put7 w9 (w.heap.size + 1 + 1 + 1) (.int .i64 0) (.slice none 0 0) (.int .i64 0) (.slice none 0 0) (.int .i64 0) (.int .i64 0) (.slice none 0 0))
          obtain ⟨r0, r1, r2, r3, r4, r5, r6⟩ := put7_at (.int .i64 0) (.slice none 0 0) (.int .i64 0) (.slice none 0 0) (.int .i64 0) (.int .i64 0) (.slice none 0 0) Z0 Z1 Z2 Z3 Z4 Z5 Z6
          have hBZ := put7_below (.int .i64 0) (.slice none 0 0) (.int .i64 0) (.slice none 0 0) (.int .i64 0) (.int .i64 0) (.slice none 0 0) hbe (b := (w.heap.size + 1 + 1 + 1)) (by omega)
          generalize put7 w9 (w.heap.size + 1 + 1 + 1) (.int .i64 0) (.slice none 0 0) (.int .i64 0) (.slice none 0 0) (.int .i64 0) (.int .i64 0) (.slice none 0 0) = Z at *
          refine bodyPost_ret (v := .tuple #[.agg #[.int .i64 0, .slice none 0 0, .int .i64 0, .slice none 0 0, .int .i64 0, .int .i64 0, .slice none 0 0], .int .i64 5]) (by simp [results, Tryz.results81, go_sem, r0, r1, r2, r3, r4, r5, r6]) rfl ?_
          show TsPost _ w _ _
          rw [HM.out]
          exact ⟨_, _, _, rfl, rdst_no _, hBZ⟩
      have h5 : xa.length + xb.length ≤ 2000 := by omega
      have t6 : decide (xa.length ≤ 2000) = true := by simp; omega
      have t7 : decide (xb.length ≤ 2000) = true := by simp; omega
      have e6 : memL (hasS a) f t = xa := by rw [HMLA.out, if_pos (by omega)]
      have e7 : memL (hasS b) f t = xb := by rw [HMLB.out, if_pos (by omega)]
      rw [t6, t7, e6, e7]
      rw [e6] at HO8
      rw [e7] at HO9
      clear t6 t7 e6 e7 HMLA HMLB
      have HFO := Lib.hid (comb_form (kind := 2) HGA.out HGB.out HB1.out HB2.out HPE.out HWL.out HWR.out (by rw [HXA.out, HXB.out]; omega))
      have HCL := Lib.hid (comb_lists (kind := 2) (ga := hasS a) (gb := hasS b) HWO.out.1 HWO.out.2.1 HWO.out.2.2 (by rw [HXA.out, HXB.out]; exact h5))
      rw [HXA.out, HXB.out] at HCL
      obtain ⟨L, hL⟩ : ∃ L, memF (fun x => ruleB 2 (hasS a x) (hasS b x)) f (t - f).toNat = L := ⟨_, rfl⟩
      rw [hL] at HCL HFO
      have HOK : Hid (OkS ⟨(P1, l1), (P2, l2), f, t, L⟩) := by
        rw [← hL]
        exact comb_ok HQ1.out.2.2.1 HQ2.out.2.2.1 HWO.out.1 HWO.out.2.1 HWO.out.2.2 (by rw [hL]; exact HCL.out.2)
      clear hL
      have s5 : IntKind.i64.wrap ((xa.length : Int) + (xb.length : Int)) = (xa.length : Int) + (xb.length : Int) := by rw [IntKind.wrap_i64]; omega
      have t5 : decide ((2000 : Int) < (xa.length : Int) + (xb.length : Int)) = false := by simp; omega
      have HRO := Lib.hid (fun W h h' => runs_Minus_any (.slice p8 xa.length q8) (.slice p9 xb.length q9) xa xb W h h')
      have HR8 := Lib.hid (HO8.out.rd (by omega))
      have HR9 := Lib.hid (HO9.out.rd (by omega))
      go_wp2_with fail
      refine (HRO.out _ HR8.out HR9.out).mono ?_
      rintro e w10 ⟨v10, rfl, o10, hb10⟩
      rw [HCL.out.1] at o10 ⊢
      simp only at o10 ⊢
      have HI10 := Lib.hid (HI9.out.below hb10)
      have HS1 := Lib.hid (keepRd hb10 HS1.out)
      have HS2 := Lib.hid (keepRd hb10 HS2.out)
      have HY1 := Lib.hid (HY1.out.below hb10)
      have HY2 := Lib.hid (HY2.out.below hb10)
      obtain ⟨p10, q10, rfl, _⟩ := o10.form
      have HO10 := Lib.hid (o10.rd (by have := HCL.out.2; omega))
      clear hb10 o10 HI9 HO8 HO9 HR8 HR9
      clear A0 A1 A2 A3 A4 A5 A6 B0 B1 B2 B3 B4 B5 B6 O0 O1 Z0 Z1 Z2 Z3 Z4 Z5 Z6 K0 K1 K2 K3 K4 K5 K6 hbe
      obtain ⟨⟨⟨A0, A1, A2, A3, A4, A5, A6⟩, _⟩, ⟨⟨B0, B1, B2, B3, B4, B5, B6⟩, _⟩, ⟨O0, O1⟩, ⟨⟨Z0, Z1, Z2, Z3, Z4, Z5, Z6⟩, K0, K1, K2, K3, K4, K5, K6⟩, _, _, _, hbe⟩ := HI10.out
      obtain ⟨⟨x0, x1⟩, _⟩ := HY1.out
      obtain ⟨⟨y0, y1⟩, _⟩ := HY2.out
      have HFF := Lib.hid (fun W h => form_any ⟨(P1, l1), (P2, l2), f, t, L⟩ (.slice p1 l1.length q1) (.slice p2 l2.length q2) (.slice p10 L.length q10) W h HOK.out)
      have HPF := Lib.hid (pos_form HOK.out)
      go_wp2_with fail
      refine (HFF.out _ ⟨HS1.out, HS2.out, HO10.out⟩).mono ?_
      rintro e w11 ⟨vl, vr, vv, rfl, hr, hb11⟩
      obtain ⟨T, hT⟩ : ∃ T, formF ⟨(P1, l1), (P2, l2), f, t, L⟩ = T := ⟨_, rfl⟩
      rw [hT] at HPF HFO hr ⊢
      clear hT
      have HI11 := Lib.hid (HI10.out.below hb11)
      obtain ⟨c1, d1, rfl⟩ := hr.1.form
      obtain ⟨c2, d2, rfl⟩ := hr.2.1.form
      obtain ⟨c3, d3, rfl⟩ := hr.2.2.form
      have HRR := Lib.hid hr
      clear hb11 hr x0 x1 y0 y1
      clear A0 A1 A2 A3 A4 A5 A6 B0 B1 B2 B3 B4 B5 B6 O0 O1 Z0 Z1 Z2 Z3 Z4 Z5 Z6 K0 K1 K2 K3 K4 K5 K6 hbe
      obtain ⟨⟨⟨A0, A1, A2, A3, A4, A5, A6⟩, _⟩, ⟨⟨B0, B1, B2, B3, B4, B5, B6⟩, _⟩, ⟨O0, O1⟩, ⟨⟨Z0, Z1, Z2, Z3, Z4, Z5, Z6⟩, K0, K1, K2, K3, K4, K5, K6⟩, _, _, _, hbe⟩ := HI11.out
      go_wp2
      change bodyPost _ _ _ _ _ (put7 w11 (w.heap.size + 1 + 1 + 1) (.int .i64 T.1.lf.1) (.slice c1 T.1.lf.2.length d1) (.int .i64 T.1.rt.1) (.slice c2 T.1.rt.2.length d2) (.int .i64 T.1.fr) (.int .i64 T.1.to) (.slice c3 T.1.l.length d3))
      obtain ⟨r0, r1, r2, r3, r4, r5, r6⟩ := put7_at (.int .i64 T.1.lf.1) (.slice c1 T.1.lf.2.length d1) (.int .i64 T.1.rt.1) (.slice c2 T.1.rt.2.length d2) (.int .i64 T.1.fr) (.int .i64 T.1.to) (.slice c3 T.1.l.length d3) Z0 Z1 Z2 Z3 Z4 Z5 Z6
      have hBZ := put7_below (.int .i64 T.1.lf.1) (.slice c1 T.1.lf.2.length d1) (.int .i64 T.1.rt.1) (.slice c2 T.1.rt.2.length d2) (.int .i64 T.1.fr) (.int .i64 T.1.to) (.slice c3 T.1.l.length d3) hbe (b := w.heap.size + 1 + 1 + 1) (by omega)
      have hRZ := HRR.out.put (.int .i64 T.1.lf.1) (.slice c1 T.1.lf.2.length d1) (.int .i64 T.1.rt.1) (.slice c2 T.1.rt.2.length d2) (.int .i64 T.1.fr) (.int .i64 T.1.to) (.slice c3 T.1.l.length d3) HPF.out HI11.out.zz
      generalize put7 w11 (w.heap.size + 1 + 1 + 1) (.int .i64 T.1.lf.1) (.slice c1 T.1.lf.2.length d1) (.int .i64 T.1.rt.1) (.slice c2 T.1.rt.2.length d2) (.int .i64 T.1.fr) (.int .i64 T.1.to) (.slice c3 T.1.l.length d3) = Z at *
      refine bodyPost_ret (v := .tuple #[.agg #[.int .i64 T.1.lf.1, .slice c1 T.1.lf.2.length d1, .int .i64 T.1.rt.1, .slice c2 T.1.rt.2.length d2, .int .i64 T.1.fr, .int .i64 T.1.to, .slice c3 T.1.l.length d3], .int .i64 T.2]) (by simp [results, Tryz.results81, go_sem, r0, r1, r2, r3, r4, r5, r6]) rfl ?_
      show TsPost _ w _ _
      rw [HFO.out]
      exact ⟨_, _, _, rfl, hRZ, hBZ⟩
end Go.Proofs.YtnjpceocnldlfaaGreat
