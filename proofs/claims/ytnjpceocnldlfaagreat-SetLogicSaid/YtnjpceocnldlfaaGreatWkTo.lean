import Derived.Test.YtnjpceocnldlfaaGreatWkNc
import Derived.Test.YtnjpceocnldlfaaGreatWkRfC
import Derived.Test.YtnjpceocnldlfaaGreatWkLq
/- timeset.Not. -/
namespace Go.Proofs.YtnjpceocnldlfaaGreat
open Go.RowKit Wk

theorem wpList_app_in2 {ops : Array Oper} {rest : List Oper} {o : Oper} {a : Act} {Q : Exit → Act → World → Prop} {W : World} {v : Value} {L : List Sp} {z1 z2 : Int} {m : Nat} (hgd : o.guard = none) (s x : Operand)
    (ho : o.op = .call { callee := .builtin .append, args := #[s, x], argTypes := #[22, 22] }) (hs : a.eval s = v) (hown : OwnS W m v L) (hm : m ≤ W.heap.size)
    {n : Nat} (hx : a.eval x = .slice (some ⟨n, 0, none⟩) 1 1) (hn : n = W.heap.size) (hlen : L.length < 1000000000000)
    (h : ∀ v' w', OwnS w' m v' (L ++ [(z1, z2)]) → Below m W w' → (∀ b off, b < W.heap.size → v.ownBlock ≠ some b → w'.cell? ⟨b, off, none⟩ = W.cell? ⟨b, off, none⟩) → wpList Tryz.prog ops Q rest (a.put o.dst v') w') :
    wpList Tryz.prog ops Q (o :: rest) a (W.alloc (.cells #[.int .i64 z1, .int .i64 z2] 40)) := by
  have hz := cutAt_size hm
  refine wpList_app_span (w0 := cutAt W m) hgd s x ho hs (by rw [hz]; exact hown) (by rw [hz]; exact cutAt_below hm) hx hn hlen ?_
  intro v' w' o1 b1 k1 z1
  rw [hz] at o1 b1
  exact h v' w' o1 (cutAt_back hm b1 z1) k1
theorem step_app_at {ops : Array Oper} {o : Oper} {a : Act} {K : Act → World → Prop} {Q : Exit → Act → World → Prop} {E : Prop} {W : World} {v : Value} {L : List Sp} {z1 z2 : Int} {m : Nat} (hgd : o.guard = none) (s x : Operand)
    (ho : o.op = .call { callee := .builtin .append, args := #[s, x], argTypes := #[22, 22] }) (hs : a.eval s = v) (hown : OwnS W m v L) (hm : m ≤ W.heap.size)
    {n : Nat} (hx : a.eval x = .slice (some ⟨n, 0, none⟩) 1 1) (hz1 : W.cell? ⟨n, 0, none⟩ = some (.int .i64 z1)) (hz2 : W.cell? ⟨n, 1, none⟩ = some (.int .i64 z2)) (hlen : L.length < 1000000000000)
    (h : ∀ v' w', OwnS w' m v' (L ++ [(z1, z2)]) → Below m (cutAt W m) w' → K (a.put o.dst v') w') :
    if Region.wanted o (yielded ops a.tmps) = true then Oper.wp Tryz.prog o a W K Q else E := by
  have hw : Region.wanted o (yielded ops a.tmps) = true := by simp [Region.wanted, hgd]
  rw [if_pos hw]
  obtain ⟨i0, hi, q0, q1, q2⟩ := info_parts Tryz.infoSpan
  have hz := cutAt_size hm
  have hbw := cutAt_below hm
  refine wp_append_lies _ s x 22 ho m 40 i0 (.agg #[.int .i64 0, .int .i64 0]) 2 16 Tryz.underlying22 hi q0 q1 q2 rfl (by decide) v L.length (flatS L) hs hown ⟨n, 0, none⟩ 1 1 [.int .i64 z1, .int .i64 z2] hx rfl ?_ ?_ (by decide) (by unfold maxLen; omega) (by omega) hm _ rfl ?_
  · intro j u hu
    have hj := (List.getElem?_eq_some_iff.1 hu).1
    rw [WideShapes.add_plain]
    simp at hj
    rcases (by omega : j = 0 ∨ j = 1) with rfl | rfl
    · simp at hu; subst hu; exact hz1
    · simp at hu; subst hu; exact hz2
  · intro u hu; simp at hu; rcases hu with rfl | rfl <;> rfl
  · intro g cap w' hown' hg _ _
    refine h _ w' ?_ ?_
    · unfold OwnS
      rw [flatS_append]
      simpa [flatS] using hown'
    · exact hbw.grown hg (by omega) (fun k hk => (hown.lt k hk).1)

set_option maxRecDepth 100000 in
set_option maxHeartbeats 8000000 in
theorem tnot_any (a : St) (al ar av : Value) (w : World) (ha : RdSt w a al ar av) :
    Calls Tryz.prog 50 #[.agg #[.int .i64 a.lf.1, al, .int .i64 a.rt.1, ar, .int .i64 a.fr, .int .i64 a.to, av]] w (TsPost (setNot a) w) := by
  have HVA := Lib.hid (fun W h => tvalid_any a al ar av W h)
  have HPL := Lib.hid (fun W h => tNotPer a.lf.1 al a.lf.2 W h)
  have HPR := Lib.hid (fun W h => tNotPer a.rt.1 ar a.rt.2 W h)
  have HRA := Lib.hid ha
  obtain ⟨a1, n1, e1⟩ := ha.1.form
  obtain ⟨a2, n2, e2⟩ := ha.2.1.form
  obtain ⟨a3, n3, e3⟩ := ha.2.2.form
  subst e1 e2 e3
  obtain ⟨W, hWe⟩ : ∃ W, (w.alloc (.cells #[.int .i64 a.lf.1, .slice a1 a.lf.2.length n1, .int .i64 a.rt.1, .slice a2 a.rt.2.length n2, .int .i64 a.fr, .int .i64 a.to, .slice a3 a.l.length n3] 26)).alloc (.cells #[.int .i64 0, .slice none 0 0, .int .i64 0, .slice none 0 0, .int .i64 0, .int .i64 0, .slice none 0 0] 26) = W := ⟨_, rfl⟩
  have hW : Below w.heap.size w W := by rw [← hWe]; exact ((Below.refl _ w).alloc (Nat.le_refl _) _).alloc (by simp) _
  have HI : Hid (NtIn w a (.slice a1 a.lf.2.length n1) (.slice a2 a.rt.2.length n2) (.slice a3 a.l.length n3) W) := by
    refine ⟨?_, ?_, ?_, keepSt hW HRA.out, hW⟩
    · rw [← hWe]
      refine ⟨⟨?_, ?_, ?_, ?_, ?_, ?_, ?_⟩, ?_, ?_, ?_, ?_, ?_, ?_, ?_⟩ <;> simp [go_sem]
    · rw [← hWe]
      refine ⟨⟨?_, ?_, ?_, ?_, ?_, ?_, ?_⟩, ?_, ?_, ?_, ?_, ?_, ?_, ?_⟩ <;> simp [go_sem]
    · rw [← hWe]
      have := zero7_new (w.alloc (.cells #[.int .i64 a.lf.1, .slice a1 a.lf.2.length n1, .int .i64 a.rt.1, .slice a2 a.rt.2.length n2, .int .i64 a.fr, .int .i64 a.to, .slice a3 a.l.length n3] 26))
      simpa using this
  have HE := Lib.hid hWe
  clear hWe hW ha HRA
  obtain ⟨⟨⟨A0, A1, A2, A3, A4, A5, A6⟩, _⟩, ⟨⟨Z0, Z1, Z2, Z3, Z4, Z5, Z6⟩, K0, K1, K2, K3, K4, K5, K6⟩, _, _, hbe⟩ := HI.out
  obtain ⟨ga, hga⟩ : ∃ g, VB a = g := ⟨_, rfl⟩
  rw [hga] at HVA
  have HGA := Lib.hid hga
  clear hga
  have HMO : Hid (setNot a = twoM perNot (notRest a) a) := rfl
  rw [HMO.out]
  clear HMO
  go_enter Tryz.func50, Tryz.ntmps50
  go_wp2_with fail
  rw [HE.out]
  go_wp2_with fail
  refine (HVA.out _ HI.out.ra).mono ?_
  rintro e w1 ⟨rfl, hb1⟩
  have HI1 := Lib.hid (HI.out.below hb1)
  clear hb1 HE
  clear A0 A1 A2 A3 A4 A5 A6 Z0 Z1 Z2 Z3 Z4 Z5 Z6 K0 K1 K2 K3 K4 K5 K6 hbe
  obtain ⟨⟨⟨A0, A1, A2, A3, A4, A5, A6⟩, _⟩, ⟨⟨Z0, Z1, Z2, Z3, Z4, Z5, Z6⟩, K0, K1, K2, K3, K4, K5, K6⟩, _, _, hbe⟩ := HI1.out
  cases ga with
  | false =>
    have HM := Lib.hid (two_bad (op := perNot) (rest := (notRest a)) HGA.out)
    go_wp2
    change bodyPost _ _ _ _ _ (put7 w1 (w.heap.size + 1) (.int .i64 0) (.slice none 0 0) (.int .i64 0) (.slice none 0 0) (.int .i64 0) (.int .i64 0) (.slice none 0 0))
    obtain ⟨r0, r1, r2, r3, r4, r5, r6⟩ := put7_at (.int .i64 0) (.slice none 0 0) (.int .i64 0) (.slice none 0 0) (.int .i64 0) (.int .i64 0) (.slice none 0 0) Z0 Z1 Z2 Z3 Z4 Z5 Z6
    have hBZ := put7_below (.int .i64 0) (.slice none 0 0) (.int .i64 0) (.slice none 0 0) (.int .i64 0) (.int .i64 0) (.slice none 0 0) hbe (b := (w.heap.size + 1)) (by omega)
    generalize put7 w1 (w.heap.size + 1) (.int .i64 0) (.slice none 0 0) (.int .i64 0) (.slice none 0 0) (.int .i64 0) (.int .i64 0) (.slice none 0 0) = Z at *
    refine bodyPost_ret (v := .tuple #[.agg #[.int .i64 0, .slice none 0 0, .int .i64 0, .slice none 0 0, .int .i64 0, .int .i64 0, .slice none 0 0], .int .i64 1]) (by simp [results, Tryz.results50, go_sem, r0, r1, r2, r3, r4, r5, r6]) rfl ?_
    show TsPost _ w _ _
    rw [HM.out]
    exact ⟨_, _, _, rfl, rdst_no _, hBZ⟩
  | true =>
  have HOA := Lib.hid (okS_of_VB HGA.out)
  go_wp2_with fail
  refine (HPL.out _ HI1.out.ra.1).mono ?_
  rintro e w3 ⟨v1, rfl, o1, hb3⟩
  obtain ⟨⟨⟨P1, l1⟩, e1⟩, hr1⟩ : ∃ r, perNot (a.lf.1, a.lf.2) = r := ⟨_, rfl⟩
  rw [hr1] at o1 ⊢
  have HB1 : Hid (perNot a.lf = ((P1, l1), e1)) := hr1
  clear hr1
  simp only at o1 ⊢
  obtain ⟨p1, q1, rfl⟩ := o1.form
  have HA3 := Lib.hid ((Below.refl w3.heap.size w3).alloc (Nat.le_refl _) (.cells #[.int .i64 P1, .slice p1 l1.length q1] 24))
  have HI3 : Hid (NtIn w a (.slice a1 a.lf.2.length n1) (.slice a2 a.rt.2.length n2) (.slice a3 a.l.length n3) (w3.alloc (.cells #[.int .i64 P1, .slice p1 l1.length q1] 24))) := (HI1.out.below hb3).below HA3.out
  have HO1 := Lib.hid (keepRd HA3.out o1)
  have HX1 : Hid (Box2 (w3.alloc (.cells #[.int .i64 P1, .slice p1 l1.length q1] 24)) w3.heap.size (.int .i64 P1) (.slice p1 l1.length q1)) := box2_new _ _ _ _
  clear hb3 o1
  clear A0 A1 A2 A3 A4 A5 A6 Z0 Z1 Z2 Z3 Z4 Z5 Z6 K0 K1 K2 K3 K4 K5 K6 hbe
  obtain ⟨⟨⟨A0, A1, A2, A3, A4, A5, A6⟩, _⟩, ⟨⟨Z0, Z1, Z2, Z3, Z4, Z5, Z6⟩, K0, K1, K2, K3, K4, K5, K6⟩, _, _, hbe⟩ := HI3.out
  by_cases h1 : e1 ≠ 0
  ·
    have HM := Lib.hid (two_left (op := perNot) (rest := (notRest a)) HGA.out (by rw [HB1.out]) h1)
    have t1 : (e1 != 0) = true := by simpa using h1
    clear h1
    go_wp2
    change bodyPost _ _ _ _ _ (put7 (w3.alloc (.cells #[.int .i64 P1, .slice p1 l1.length q1] 24)) (w.heap.size + 1) (.int .i64 0) (.slice none 0 0) (.int .i64 0) (.slice none 0 0) (.int .i64 0) (.int .i64 0) (.slice none 0 0))
    obtain ⟨r0, r1, r2, r3, r4, r5, r6⟩ := put7_at (.int .i64 0) (.slice none 0 0) (.int .i64 0) (.slice none 0 0) (.int .i64 0) (.int .i64 0) (.slice none 0 0) Z0 Z1 Z2 Z3 Z4 Z5 Z6
    have hBZ := put7_below (.int .i64 0) (.slice none 0 0) (.int .i64 0) (.slice none 0 0) (.int .i64 0) (.int .i64 0) (.slice none 0 0) hbe (b := (w.heap.size + 1)) (by omega)
    generalize put7 (w3.alloc (.cells #[.int .i64 P1, .slice p1 l1.length q1] 24)) (w.heap.size + 1) (.int .i64 0) (.slice none 0 0) (.int .i64 0) (.slice none 0 0) (.int .i64 0) (.int .i64 0) (.slice none 0 0) = Z at *
    refine bodyPost_ret (v := .tuple #[.agg #[.int .i64 0, .slice none 0 0, .int .i64 0, .slice none 0 0, .int .i64 0, .int .i64 0, .slice none 0 0], .int .i64 e1]) (by simp [results, Tryz.results50, go_sem, r0, r1, r2, r3, r4, r5, r6]) rfl ?_
    show TsPost _ w _ _
    rw [HM.out]
    exact ⟨_, _, _, rfl, rdst_no _, hBZ⟩
  have h1 : e1 = 0 := by omega
  subst h1
  have HQ1 := Lib.hid (perNot_ok (p := a.lf) HOA.out.lf (by rw [HB1.out]))
  rw [HB1.out] at HQ1
  have HPV1 : Hid (pvB P1 l1 = true) := HQ1.out.1
  obtain ⟨⟨x0, x1⟩, _⟩ := HX1.out
  go_wp2_with fail
  refine (HPR.out _ HI3.out.ra.2.1).mono ?_
  rintro e w4 ⟨v2, rfl, o2, hb4⟩
  obtain ⟨⟨⟨P2, l2⟩, e2⟩, hr2⟩ : ∃ r, perNot (a.rt.1, a.rt.2) = r := ⟨_, rfl⟩
  rw [hr2] at o2 ⊢
  have HB2 : Hid (perNot a.rt = ((P2, l2), e2)) := hr2
  clear hr2
  simp only at o2 ⊢
  obtain ⟨p2, q2, rfl⟩ := o2.form
  have HA4 := Lib.hid ((Below.refl w4.heap.size w4).alloc (Nat.le_refl _) (.cells #[.int .i64 P2, .slice p2 l2.length q2] 24))
  have HI4 : Hid (NtIn w a (.slice a1 a.lf.2.length n1) (.slice a2 a.rt.2.length n2) (.slice a3 a.l.length n3) (w4.alloc (.cells #[.int .i64 P2, .slice p2 l2.length q2] 24))) := (HI3.out.below hb4).below HA4.out
  have HR2 := Lib.hid (keepRd HA4.out o2)
  have HR1 : Hid (RdS (w4.alloc (.cells #[.int .i64 P2, .slice p2 l2.length q2] 24)) (.slice p1 l1.length q1) l1) := keepRd HA4.out (keepRd hb4 HO1.out)
  have HX1' : Hid (Box2 (w4.alloc (.cells #[.int .i64 P2, .slice p2 l2.length q2] 24)) w3.heap.size (.int .i64 P1) (.slice p1 l1.length q1)) := (HX1.out.below hb4).below HA4.out
  have HX2 : Hid (Box2 (w4.alloc (.cells #[.int .i64 P2, .slice p2 l2.length q2] 24)) w4.heap.size (.int .i64 P2) (.slice p2 l2.length q2)) := box2_new _ _ _ _
  clear hb4 o2 x0 x1 HX1 HI3 HO1 HA3
  clear A0 A1 A2 A3 A4 A5 A6 Z0 Z1 Z2 Z3 Z4 Z5 Z6 K0 K1 K2 K3 K4 K5 K6 hbe
  obtain ⟨⟨⟨A0, A1, A2, A3, A4, A5, A6⟩, _⟩, ⟨⟨Z0, Z1, Z2, Z3, Z4, Z5, Z6⟩, K0, K1, K2, K3, K4, K5, K6⟩, _, _, hbe⟩ := HI4.out
  by_cases h2 : e2 ≠ 0
  ·
    have HM := Lib.hid (two_right (op := perNot) (rest := (notRest a)) HGA.out HB1.out (by rw [HB2.out]) h2)
    have t1 : (e2 != 0) = true := by simpa using h2
    clear h2
    go_wp2
    change bodyPost _ _ _ _ _ (put7 (w4.alloc (.cells #[.int .i64 P2, .slice p2 l2.length q2] 24)) (w.heap.size + 1) (.int .i64 0) (.slice none 0 0) (.int .i64 0) (.slice none 0 0) (.int .i64 0) (.int .i64 0) (.slice none 0 0))
    obtain ⟨r0, r1, r2, r3, r4, r5, r6⟩ := put7_at (.int .i64 0) (.slice none 0 0) (.int .i64 0) (.slice none 0 0) (.int .i64 0) (.int .i64 0) (.slice none 0 0) Z0 Z1 Z2 Z3 Z4 Z5 Z6
    have hBZ := put7_below (.int .i64 0) (.slice none 0 0) (.int .i64 0) (.slice none 0 0) (.int .i64 0) (.int .i64 0) (.slice none 0 0) hbe (b := (w.heap.size + 1)) (by omega)
    generalize put7 (w4.alloc (.cells #[.int .i64 P2, .slice p2 l2.length q2] 24)) (w.heap.size + 1) (.int .i64 0) (.slice none 0 0) (.int .i64 0) (.slice none 0 0) (.int .i64 0) (.int .i64 0) (.slice none 0 0) = Z at *
    refine bodyPost_ret (v := .tuple #[.agg #[.int .i64 0, .slice none 0 0, .int .i64 0, .slice none 0 0, .int .i64 0, .int .i64 0, .slice none 0 0], .int .i64 e2]) (by simp [results, Tryz.results50, go_sem, r0, r1, r2, r3, r4, r5, r6]) rfl ?_
    show TsPost _ w _ _
    rw [HM.out]
    exact ⟨_, _, _, rfl, rdst_no _, hBZ⟩
  have h2 : e2 = 0 := by omega
  subst h2
  have HQ2 := Lib.hid (perNot_ok (p := a.rt) HOA.out.rt (by rw [HB2.out]))
  rw [HB2.out] at HQ2
  have HPV2 : Hid (pvB P2 l2 = true) := HQ2.out.1
  obtain ⟨⟨x0, x1⟩, _⟩ := HX1'.out
  obtain ⟨⟨y0, y1⟩, _⟩ := HX2.out
  obtain ⟨pe, hpe⟩ : ∃ pe, pairM P1 l1 P2 l2 = pe := ⟨_, rfl⟩
  have HPE := Lib.hid hpe
  have HPP := Lib.hid (fun W h h' => pair_any P1 P2 (.slice p1 l1.length q1) (.slice p2 l2.length q2) l1 l2 W h h' HPV1.out HPV2.out)
  rw [hpe] at HPP
  clear hpe
  go_wp2_with fail
  refine (HPP.out _ HR1.out HR2.out).mono ?_
  rintro e w5 ⟨rfl, hb5⟩
  have HI5 := Lib.hid (HI4.out.below hb5)
  have HS1 := Lib.hid (keepRd hb5 HR1.out)
  have HS2 := Lib.hid (keepRd hb5 HR2.out)
  have HY1 := Lib.hid (HX1'.out.below hb5)
  have HY2 := Lib.hid (HX2.out.below hb5)
  clear hb5 x0 x1 y0 y1 HX1' HX2 HR1 HR2 HI4 HA4
  clear A0 A1 A2 A3 A4 A5 A6 Z0 Z1 Z2 Z3 Z4 Z5 Z6 K0 K1 K2 K3 K4 K5 K6 hbe
  obtain ⟨⟨⟨A0, A1, A2, A3, A4, A5, A6⟩, _⟩, ⟨⟨Z0, Z1, Z2, Z3, Z4, Z5, Z6⟩, K0, K1, K2, K3, K4, K5, K6⟩, _, _, hbe⟩ := HI5.out
  by_cases h3 : pe ≠ 0
  ·
    have HM := Lib.hid (two_pair (op := perNot) (rest := (notRest a)) HGA.out HB1.out HB2.out HPE.out h3)
    have t1 : (pe != 0) = true := by simpa using h3
    clear h3
    go_wp2
    change bodyPost _ _ _ _ _ (put7 w5 (w.heap.size + 1) (.int .i64 0) (.slice none 0 0) (.int .i64 0) (.slice none 0 0) (.int .i64 0) (.int .i64 0) (.slice none 0 0))
    obtain ⟨r0, r1, r2, r3, r4, r5, r6⟩ := put7_at (.int .i64 0) (.slice none 0 0) (.int .i64 0) (.slice none 0 0) (.int .i64 0) (.int .i64 0) (.slice none 0 0) Z0 Z1 Z2 Z3 Z4 Z5 Z6
    have hBZ := put7_below (.int .i64 0) (.slice none 0 0) (.int .i64 0) (.slice none 0 0) (.int .i64 0) (.int .i64 0) (.slice none 0 0) hbe (b := (w.heap.size + 1)) (by omega)
    generalize put7 w5 (w.heap.size + 1) (.int .i64 0) (.slice none 0 0) (.int .i64 0) (.slice none 0 0) (.int .i64 0) (.int .i64 0) (.slice none 0 0) = Z at *
    refine bodyPost_ret (v := .tuple #[.agg #[.int .i64 0, .slice none 0 0, .int .i64 0, .slice none 0 0, .int .i64 0, .int .i64 0, .slice none 0 0], .int .i64 pe]) (by simp [results, Tryz.results50, go_sem, r0, r1, r2, r3, r4, r5, r6]) rfl ?_
    show TsPost _ w _ _
    rw [HM.out]
    exact ⟨_, _, _, rfl, rdst_no _, hBZ⟩
  have h3 : pe = 0 := by omega
  subst h3
  have HM0 := Lib.hid (two_rest (op := perNot) (rest := (notRest a)) HGA.out HB1.out HB2.out HPE.out)
  obtain ⟨⟨x0, x1⟩, _⟩ := HY1.out
  obtain ⟨⟨y0, y1⟩, _⟩ := HY2.out
  have hft := HOA.out.ft
  have hf1 := HOA.out.f1
  have ht1 := HOA.out.t1
  have HCN : Hid (Canon a.l ∧ (∀ s ∈ a.l, a.fr ≤ s.1 ∧ s.2 ≤ a.to) ∧ a.l.length ≤ 2000) := ⟨(canon_of_rvB HOA.out.l).1, HOA.out.ins, (canon_of_rvB HOA.out.l).2.2⟩
  have HGP := Lib.hid (gaps_ok a.l a.fr a.to HCN.out.1 HCN.out.2.1 hft)
  have HGL : Hid ((gapsL a.fr (a.l ++ [(a.to, a.to)])).length ≤ 2001) := by
    have := gaps_len a.fr (a.l ++ [(a.to, a.to)])
    have := HCN.out.2.2
    unfold Hid
    simp at *
    omega
  have HRS : Hid (notRest a (P1, l1) (P2, l2) = if 2000 < (gapsL a.fr (a.l ++ [(a.to, a.to)])).length then (noSt, 5) else (⟨(P1, l1), (P2, l2), a.fr, a.to, gapsL a.fr (a.l ++ [(a.to, a.to)])⟩, 0)) := rfl
  obtain ⟨G, hG⟩ : ∃ G, gapsL a.fr (a.l ++ [(a.to, a.to)]) = G := ⟨_, rfl⟩
  rw [hG] at HGP HGL HRS
  have HGE := Lib.hid hG
  clear hG
  have HPOS : Hid (PosSt ⟨(P1, l1), (P2, l2), a.fr, a.to, G⟩) := ⟨canon_pos (goodP_of_pvB HPV1.out).canon, canon_pos (goodP_of_pvB HPV2.out).canon, canon_pos HGP.out.1⟩
  have hb8 := (Below.refl w5.heap.size w5).alloc (Nat.le_refl _) (.cells #[.int .i64 P1, .slice p1 l1.length q1, .int .i64 P2, .slice p2 l2.length q2, .int .i64 a.fr, .int .i64 a.to, .slice none 0 0] 26)
  have HI8 := Lib.hid (HI5.out.below hb8)
  have HT1 := Lib.hid (keepRd hb8 HS1.out)
  have HT2 := Lib.hid (keepRd hb8 HS2.out)
  have HB8 : Hid (Set7 (w5.alloc (.cells #[.int .i64 P1, .slice p1 l1.length q1, .int .i64 P2, .slice p2 l2.length q2, .int .i64 a.fr, .int .i64 a.to, .slice none 0 0] 26)) w5.heap.size (.int .i64 P1) (.slice p1 l1.length q1) (.int .i64 P2) (.slice p2 l2.length q2) (.int .i64 a.fr) (.int .i64 a.to) (.slice none 0 0)) := set7_new _ _ _ _ _ _ _ _
  have HSZ8 : Hid ((w5.alloc (.cells #[.int .i64 P1, .slice p1 l1.length q1, .int .i64 P2, .slice p2 l2.length q2, .int .i64 a.fr, .int .i64 a.to, .slice none 0 0] 26)).heap.size = w5.heap.size + 1) := by unfold Hid; simp
  have HBL8 := Lib.hid hb8
  clear hb8
  obtain ⟨⟨A0, A1, A2, A3, A4, A5, A6⟩, _⟩ := HI8.out.xa
  by_cases hft2 : a.fr < a.to
  · have t1 : decide (a.fr < a.to) = true := by simpa using hft2
    obtain ⟨W8, hW8⟩ : ∃ W8, (w5.alloc (.cells #[.int .i64 P1, .slice p1 l1.length q1, .int .i64 P2, .slice p2 l2.length q2, .int .i64 a.fr, .int .i64 a.to, .slice none 0 0] 26)) = W8 := ⟨_, rfl⟩
    have D4 := A4
    have D5 := A5
    rw [hW8] at HI8 HB8 HSZ8 HBL8 HT1 HT2 A0 A1 A2 A3 A4 A5 A6
    have HE8 := Lib.hid hW8
    have HCL := Lib.hid (fun W h => clone_any (.slice a3 a.l.length n3) a.l W h)
    have hd0 := (Below.refl W8.heap.size W8).drew
    have hd1 := ((Below.refl W8.heap.size W8).alloc (Nat.le_refl _) (.cells #[.int .i64 a.to, .int .i64 a.to] 40)).drew
    have RN0 := Lib.hid (keepRd hd0 HI8.out.ra.2.2)
    have RN1 := Lib.hid (keepRd hd1 HI8.out.ra.2.2)
    have m5 := keepCell hd1 A5
    have m6 := keepCell hd1 A6
    have mz0 : (W8.alloc (.cells #[.int .i64 a.to, .int .i64 a.to] 40)).drew.cell? ⟨W8.heap.size, 0, none⟩ = some (.int .i64 a.to) := (box2_new W8 (.int .i64 a.to) (.int .i64 a.to) 40).1.1
    have mz1 : (W8.alloc (.cells #[.int .i64 a.to, .int .i64 a.to] 40)).drew.cell? ⟨W8.heap.size, 1, none⟩ = some (.int .i64 a.to) := (box2_new W8 (.int .i64 a.to) (.int .i64 a.to) 40).1.2
    have hll : a.l.length < 1000000000000 := by have := HCN.out.2.2; omega
    have hmz : W8.heap.size ≤ (W8.alloc (.cells #[.int .i64 a.to, .int .i64 a.to] 40)).drew.heap.size := hd1.size
    have HA5 := Lib.hid A5
    clear hW8 Z0 Z1 Z2 Z3 Z4 Z5 Z6 K0 K1 K2 K3 K4 K5 K6 hbe
    go_upto_region 15 with fail
    rw [HE8.out]
    clear x0 x1 y0 y1 D4 D5
    go_cut [66, 67, 68] from 57 to 68 (fun u y z wx => ∃ v, u = v ∧ y = .int .i64 (a.l.length + 1 : Nat) ∧ z = .int .i64 0 ∧ OwnS wx W8.heap.size v (a.l ++ [(a.to, a.to)]) ∧ Below W8.heap.size W8 wx)
    case first =>
      go_wp2_with fail
      go_region_law (first
        | (go_simp; go_at_call 31; refine (HCL.out _ RN0.out).mono ?_; rintro e' wC ⟨vC, rfl, oC, bC⟩; have hfC := keepBelow hd0 bC; have hal := (Below.refl wC.heap.size wC).alloc (Nat.le_refl _) (.cells #[.int .i64 a.to, .int .i64 a.to] 40); have OC := (oC.mono hd0.size).below hal; have hfA := keepBelow hfC hal; have hmA := hfA.size; have C0 := (box2_new wC (.int .i64 a.to) (.int .i64 a.to) 40).1.1; have C1 := (box2_new wC (.int .i64 a.to) (.int .i64 a.to) 40).1.2; have b5 := keepCell hfC HA5.out; clear oC bC hal)
        | (go_simp; go_at_call 31; refine (HCL.out _ RN1.out).mono ?_; rintro e' wC ⟨vC, rfl, oC, bC⟩; have hfA := keepBelow hd1 bC; have OC := oC.mono hd1.size; have hmA := hfA.size; have C0 := keepCell bC mz0; have C1 := keepCell bC mz1; clear oC bC)
        | (refine step_app_at rfl (.tmp 59) (.tmp 65) rfl rfl OC hmA rfl C0 C1 hll ?_; intro v1 w9 o1 b1; obtain ⟨pv, qv, hv0, _⟩ := o1.form; have hv : v1 = .slice pv (a.l.length + 1) qv := (by simpa using hv0); subst hv; clear hv0; have O1 := Lib.hid o1; have HB9 := Lib.hid (cut_below (k := W8.heap.size) (n := W8.heap.size) hfA (Nat.le_refl _) hmA (Nat.le_refl _) b1)))
      all_goals go_wp2_with fail
      all_goals go_meet
      all_goals exact ⟨_, rfl, by first | rfl | go_num | simp, rfl, O1.out, HB9.out⟩
    case rest =>
    obtain ⟨vT, hvv, rfl, rfl, oT, hbT⟩ := hcut
    replace hvv := hvv.symm
    subst hvv
    obtain ⟨aT, cT, hvT, hfT⟩ := oT.form
    obtain ⟨gT, haT, _⟩ := hfT 0 (by simp)
    subst haT
    have hvT2 : vT = .slice (some ⟨gT, 0, none⟩) (a.l.length + 1) cT := by simpa using hvT
    subst hvT2
    have hlT := oT.lt gT rfl
    obtain ⟨pT, cT', eT, _, hcT⟩ := oT.rd (by have := HCN.out.2.2; simp; omega)
    injection eT with eT1 eT2 eT3
    subst eT1
    obtain ⟨T, hT⟩ : ∃ T, a.l ++ [(a.to, a.to)] = T := ⟨_, rfl⟩
    have hTl : T.length = a.l.length + 1 := by rw [← hT]; simp
    have hl8 := HCN.out.2.2
    have HGT : Hid (gapsL a.fr T = G) := by unfold Hid; rw [← hT]; exact HGE.out
    rw [hT] at hcT
    have HCT : Hid (∀ i, i < T.length → ∃ x y, T.getD i (0, 0) = (x, y) ∧ wc.cell? ⟨gT, i * 2, none⟩ = some (.int .i64 x) ∧ wc.cell? ⟨gT, i * 2 + 1, none⟩ = some (.int .i64 y)) := fun i hi => by
      obtain ⟨b, o, e, d1, d2⟩ := hcT i hi
      cases e
      rw [Nat.zero_add] at d1 d2
      exact ⟨_, _, rfl, d1, d2⟩
    have HB8c := Lib.hid (HB8.out.below hbT)
    have HBW := Lib.hid (keepBelow HBL8.out hbT)
    have hz8 := HSZ8.out
    have hg1 : w5.heap.size < wc.heap.size := by omega
    have hg2 : gT ≠ w5.heap.size := by omega
    have hg3 : gT < wc.heap.size := hlT.2
    clear hT hcT eT2 eT3 hvT hfT oT A0 A1 A2 A3 A4 A5 A6 m5 m6 mz0 mz1 hd0 hd1 hbT hlT hmz
    go_wp2_with fail
    go_loopw [9, 68] (fun u9 vi wr => ∃ (i : Nat) (v : Value), u9 = .int .i64 (lastTo2 a.fr (T.take i)) ∧ vi = .int .i64 i ∧ i ≤ T.length ∧ OwnS wr wc.heap.size v (gapsL a.fr (T.take i)) ∧ Set7 wr w5.heap.size (.int .i64 P1) (.slice p1 l1.length q1) (.int .i64 P2) (.slice p2 l2.length q2) (.int .i64 a.fr) (.int .i64 a.to) v ∧ Hid (∀ b o, b < wc.heap.size → b ≠ w5.heap.size → wr.cell? ⟨b, o, none⟩ = wc.cell? ⟨b, o, none⟩) ∧ Below w5.heap.size w5 wr ∧ wc.heap.size ≤ wr.heap.size) (fun _ vi _ => T.length - (intOf vi).toNat)
    case atStart => exact ⟨0, .slice none 0 0, rfl, rfl, Nat.zero_le _, OwnS.nil _ _, HB8c.out, fun _ _ _ _ => rfl, HBW.out, Nat.le_refl _⟩
    case round =>
      obtain ⟨i, v, rfl, rfl, hi, ho, h8, HK, hB, hz⟩ := hrel
      have HIr := Lib.hid (HI5.out.below hB)
      obtain ⟨⟨⟨A0, A1, A2, A3, A4, A5, A6⟩, _⟩, ⟨⟨Z0, Z1, Z2, Z3, Z4, Z5, Z6⟩, K0, K1, K2, K3, K4, K5, K6⟩, _, _, hbe⟩ := HIr.out
      by_cases hlt : i < T.length
      · obtain ⟨x, y, hxy, d1, d2⟩ := HCT.out i hlt
        rw [← HK.out gT (i * 2) hg3 hg2] at d1
        rw [← HK.out gT (i * 2 + 1) hg3 hg2] at d2
        have HTK : Hid (T.take (i + 1) = T.take i ++ [(x, y)]) := getD_take_succ hxy hlt
        have HSN := Lib.hid (gaps_snoc a.fr (T.take i) (x, y))
        have hgl := gaps_len a.fr (T.take i)
        rw [List.length_take] at hgl
        obtain ⟨X, hX⟩ : ∃ X, gapsL a.fr (T.take i) = X := ⟨_, rfl⟩
        obtain ⟨at', hat⟩ : ∃ z, lastTo2 a.fr (T.take i) = z := ⟨_, rfl⟩
        rw [hX] at ho hgl HSN
        rw [hat] at HSN ⊢
        rw [← HTK.out] at HSN
        simp only at HSN
        have hll : X.length < 1000000000000 := by omega
        have hba : Below wr.heap.size wr (wr.alloc (.cells #[.int .i64 x, .int .i64 y] 40)) := (Below.refl _ _).alloc (Nat.le_refl _) _
        have hza : wc.heap.size ≤ (wr.alloc (.cells #[.int .i64 x, .int .i64 y] 40)).heap.size := by have := hba.size; omega
        have hoa := ho.below hba
        have H8 := Lib.hid (h8.below hba)
        have HBr := Lib.hid (keepBelow hB hba)
        have HKr : Hid (∀ b o, b < wc.heap.size → b ≠ w5.heap.size → (wr.alloc (.cells #[.int .i64 x, .int .i64 y] 40)).cell? ⟨b, o, none⟩ = wc.cell? ⟨b, o, none⟩) := fun b o h1 h2 => (hba.cell (p := ⟨b, o, none⟩) (by show b < wr.heap.size; omega)).trans (HK.out b o h1 h2)
        have hown : v.ownBlock ≠ some wr.heap.size := fun e => by have := (ho.lt _ e).2; omega
        have hne : w5.heap.size ≠ wr.heap.size := by omega
        have hin : wr.heap.size < (wr.alloc (.cells #[.int .i64 x, .int .i64 y] 40)).heap.size := by simp
        have hy1 : (wr.alloc (.cells #[.int .i64 x, .int .i64 y] 40)).cell? ⟨wr.heap.size, 1, none⟩ = some (.int .i64 y) := (box2_new wr (.int .i64 x) (.int .i64 y) 40).1.2
        have HYY := Lib.hid (And.intro hown (And.intro hne (And.intro hin hy1)))
        clear hown hne hin hy1
        have k6 := H8.out.1.2.2.2.2.2.2
        clear hX hat hgl A0 A1 A2 A3 A4 A5 A6 Z0 Z1 Z2 Z3 Z4 Z5 Z6 K0 K1 K2 K3 K4 K5 K6 hbe hba h8 ho hB hz HK hxy
        by_cases hx : at' < x
        · have t2 : decide (at' < x) = true := by simpa using hx
          rw [if_pos hx] at HSN
          clear hx
          go_wp2_with (at_builtin; refine wpList_app_in2 rfl (.tmp 77) (.tmp 82) rfl rfl hoa hza rfl (by simp) hll ?_; intro v1 w9 o1 b1 kk; obtain ⟨pv, qv, hv0, _⟩ := o1.form; have hv : v1 = .slice pv (X.length + 1) qv := (by simpa using hv0); subst hv; clear hv0; have O1 := Lib.hid o1; have H8n := Lib.hid (set7_keep H8.out hg1 b1); have y0 : (w9.setCell ⟨w5.heap.size, 6, none⟩ (.slice pv (X.length + 1) qv)).cell? ⟨wr.heap.size, 1, none⟩ = some (.int .i64 y) := (World.cell?_setCell_far w9 _ _ _ HYY.out.2.1).trans ((kk wr.heap.size 1 HYY.out.2.2.1 HYY.out.1).trans HYY.out.2.2.2); obtain ⟨⟨g0, g1, g2, g3, g4, g5, g6⟩, f0, f1, f2, f3, f4, f5, f6⟩ := H8n.out)
          go_roundw
          case rel => (repeat apply Exists.intro); exact ⟨⟨i + 1, .slice pv (X.length + 1) qv, by rw [HSN.out.2], by go_num, by omega, by rw [HSN.out.1]; exact O1.out.setCell hg1 _, set7_last H8n.out _, fun b o h1 h2 => (World.cell?_setCell_far w9 _ _ _ (fun e => h2 (by simpa using e.symm))).trans ((b1.cell (p := ⟨b, o, none⟩) h1).trans (HKr.out b o h1 h2)), (HBr.out.trans (b1.mono (by omega))).setCell (Nat.le_refl _) _, by have := Nat.le_trans hza b1.size; simpa using this⟩, rfl⟩
          case measure => simp [intOf]; omega
        · have t2 : decide (at' < x) = false := by simpa using hx
          rw [if_neg hx, List.append_nil] at HSN
          clear hx
          go_wp2
          go_roundw
          case rel => exact ⟨i + 1, v, by rw [HSN.out.2], by go_num, by omega, by rw [HSN.out.1]; exact hoa, H8.out, HKr.out, HBr.out, hza⟩
          case measure => simp [intOf]; omega
      · have hil : T.take i = T := by rw [show i = T.length by omega]; exact List.take_length
        rw [hil, HGT.out] at ho
        obtain ⟨pL, qL, rfl, _⟩ := ho.form
        have HRD : Hid (RdSt wr ⟨(P1, l1), (P2, l2), a.fr, a.to, G⟩ (.slice p1 l1.length q1) (.slice p2 l2.length q2) (.slice pL G.length qL)) := ⟨keepRd hB HS1.out, keepRd hB HS2.out, ho.rd (by have := HGL.out; omega)⟩
        obtain ⟨⟨c0, c1, c2, c3, c4, c5, c6⟩, _⟩ := h8
        clear ho
        by_cases hlen : 2000 < G.length
        · have HM : Hid (twoM perNot (notRest a) a = (noSt, 5)) := by unfold Hid; rw [HM0.out, HRS.out, if_pos hlen]
          go_wp2
          change bodyPost _ _ _ _ _ (put7 wr (w.heap.size + 1) (.int .i64 0) (.slice none 0 0) (.int .i64 0) (.slice none 0 0) (.int .i64 0) (.int .i64 0) (.slice none 0 0))
          obtain ⟨r0, r1, r2, r3, r4, r5, r6⟩ := put7_at (.int .i64 0) (.slice none 0 0) (.int .i64 0) (.slice none 0 0) (.int .i64 0) (.int .i64 0) (.slice none 0 0) Z0 Z1 Z2 Z3 Z4 Z5 Z6
          have hBZ := put7_below (.int .i64 0) (.slice none 0 0) (.int .i64 0) (.slice none 0 0) (.int .i64 0) (.int .i64 0) (.slice none 0 0) hbe (b := (w.heap.size + 1)) (by omega)
          generalize put7 wr (w.heap.size + 1) (.int .i64 0) (.slice none 0 0) (.int .i64 0) (.slice none 0 0) (.int .i64 0) (.int .i64 0) (.slice none 0 0) = Z at *
          refine bodyPost_ret (v := .tuple #[.agg #[.int .i64 0, .slice none 0 0, .int .i64 0, .slice none 0 0, .int .i64 0, .int .i64 0, .slice none 0 0], .int .i64 5]) (by simp [results, Tryz.results50, go_sem, r0, r1, r2, r3, r4, r5, r6]) rfl ?_
          show TsPost _ w _ _
          rw [HM.out]
          exact ⟨_, _, _, rfl, rdst_no _, hBZ⟩
        · have HM : Hid (twoM perNot (notRest a) a = (⟨(P1, l1), (P2, l2), a.fr, a.to, G⟩, 0)) := by unfold Hid; rw [HM0.out, HRS.out, if_neg hlen]
          go_wp2
          change bodyPost _ _ _ _ _ (put7 wr (w.heap.size + 1) (.int .i64 P1) (.slice p1 l1.length q1) (.int .i64 P2) (.slice p2 l2.length q2) (.int .i64 a.fr) (.int .i64 a.to) (.slice pL G.length qL))
          obtain ⟨r0, r1, r2, r3, r4, r5, r6⟩ := put7_at (.int .i64 P1) (.slice p1 l1.length q1) (.int .i64 P2) (.slice p2 l2.length q2) (.int .i64 a.fr) (.int .i64 a.to) (.slice pL G.length qL) Z0 Z1 Z2 Z3 Z4 Z5 Z6
          have hBZ := put7_below (.int .i64 P1) (.slice p1 l1.length q1) (.int .i64 P2) (.slice p2 l2.length q2) (.int .i64 a.fr) (.int .i64 a.to) (.slice pL G.length qL) hbe (b := (w.heap.size + 1)) (by omega)
          have hRZ := (HRD.out).put (.int .i64 P1) (.slice p1 l1.length q1) (.int .i64 P2) (.slice p2 l2.length q2) (.int .i64 a.fr) (.int .i64 a.to) (.slice pL G.length qL) HPOS.out HIr.out.zz
          generalize put7 wr (w.heap.size + 1) (.int .i64 P1) (.slice p1 l1.length q1) (.int .i64 P2) (.slice p2 l2.length q2) (.int .i64 a.fr) (.int .i64 a.to) (.slice pL G.length qL) = Z at *
          refine bodyPost_ret (v := .tuple #[.agg #[.int .i64 P1, .slice p1 l1.length q1, .int .i64 P2, .slice p2 l2.length q2, .int .i64 a.fr, .int .i64 a.to, .slice pL G.length qL], .int .i64 0]) (by simp [results, Tryz.results50, go_sem, r0, r1, r2, r3, r4, r5, r6]) rfl ?_
          show TsPost _ w _ _
          rw [HM.out]
          exact ⟨_, _, _, rfl, hRZ, hBZ⟩
  · have t1 : decide (a.fr < a.to) = false := by simpa using hft2
    have hG0 : G = [] := canon_ext HGP.out.1 trivial fun x => by
      rw [HGP.out.2.2 x, show inL [] x = false from rfl, Bool.and_eq_false_iff, Bool.and_eq_false_iff]
      left
      by_cases h : a.fr ≤ x
      · exact .inr (by simp; omega)
      · exact .inl (by simpa using h)
    subst hG0
    have HM : Hid (twoM perNot (notRest a) a = (⟨(P1, l1), (P2, l2), a.fr, a.to, []⟩, 0)) := by unfold Hid; rw [HM0.out, HRS.out, if_neg (by simp)]
    have HRD : Hid (RdSt (w5.alloc (.cells #[.int .i64 P1, .slice p1 l1.length q1, .int .i64 P2, .slice p2 l2.length q2, .int .i64 a.fr, .int .i64 a.to, .slice none 0 0] 26)) ⟨(P1, l1), (P2, l2), a.fr, a.to, []⟩ (.slice p1 l1.length q1) (.slice p2 l2.length q2) (.slice none 0 0)) := ⟨HT1.out, HT2.out, rd_none _⟩
    clear Z0 Z1 Z2 Z3 Z4 Z5 Z6 K0 K1 K2 K3 K4 K5 K6 hbe
    obtain ⟨⟨Z0, Z1, Z2, Z3, Z4, Z5, Z6⟩, K0, K1, K2, K3, K4, K5, K6⟩ := HI8.out.xz
    have hbe := HI8.out.be
    go_wp2
    change bodyPost _ _ _ _ _ (put7 (w5.alloc (.cells #[.int .i64 P1, .slice p1 l1.length q1, .int .i64 P2, .slice p2 l2.length q2, .int .i64 a.fr, .int .i64 a.to, .slice none 0 0] 26)) (w.heap.size + 1) (.int .i64 P1) (.slice p1 l1.length q1) (.int .i64 P2) (.slice p2 l2.length q2) (.int .i64 a.fr) (.int .i64 a.to) (.slice none 0 0))
    obtain ⟨r0, r1, r2, r3, r4, r5, r6⟩ := put7_at (.int .i64 P1) (.slice p1 l1.length q1) (.int .i64 P2) (.slice p2 l2.length q2) (.int .i64 a.fr) (.int .i64 a.to) (.slice none 0 0) Z0 Z1 Z2 Z3 Z4 Z5 Z6
    have hBZ := put7_below (.int .i64 P1) (.slice p1 l1.length q1) (.int .i64 P2) (.slice p2 l2.length q2) (.int .i64 a.fr) (.int .i64 a.to) (.slice none 0 0) hbe (b := (w.heap.size + 1)) (by omega)
    have hRZ := (HRD.out).put (.int .i64 P1) (.slice p1 l1.length q1) (.int .i64 P2) (.slice p2 l2.length q2) (.int .i64 a.fr) (.int .i64 a.to) (.slice none 0 0) HPOS.out HI8.out.zz
    generalize put7 (w5.alloc (.cells #[.int .i64 P1, .slice p1 l1.length q1, .int .i64 P2, .slice p2 l2.length q2, .int .i64 a.fr, .int .i64 a.to, .slice none 0 0] 26)) (w.heap.size + 1) (.int .i64 P1) (.slice p1 l1.length q1) (.int .i64 P2) (.slice p2 l2.length q2) (.int .i64 a.fr) (.int .i64 a.to) (.slice none 0 0) = Z at *
    refine bodyPost_ret (v := .tuple #[.agg #[.int .i64 P1, .slice p1 l1.length q1, .int .i64 P2, .slice p2 l2.length q2, .int .i64 a.fr, .int .i64 a.to, .slice none 0 0], .int .i64 0]) (by simp [results, Tryz.results50, go_sem, r0, r1, r2, r3, r4, r5, r6]) rfl ?_
    show TsPost _ w _ _
    rw [HM.out]
    exact ⟨_, _, _, rfl, hRZ, hBZ⟩
end Go.Proofs.YtnjpceocnldlfaaGreat
