import Derived.Test.YtnjpceocnldlfaaGreatWkAwr
import Derived.Test.YtnjpceocnldlfaaGreatWkLrg
import Derived.Test.YtnjpceocnldlfaaGreatWkTeq
import Derived.Test.YtnjpceocnldlfaaGreatWkWid
/- The law SetForms. -/
namespace Go.Proofs.YtnjpceocnldlfaaGreat
open Go.RowKit Wk

theorem eqT_same {s t : St} (h1 : VB s = true) (h2 : VB t = true) : eqTB s t = sameB s t := by
  have a1 := okS_of_VB h1
  have a2 := okS_of_VB h2
  unfold eqTB sameB peB
  rw [h1, h2, a1.lf, a1.rt, a2.lf, a2.rt]
  simp only [Bool.true_and]
  rw [Bool.eq_iff_iff]
  simp only [Bool.and_eq_true]
  constructor
  · rintro ⟨⟨⟨⟨p, q⟩, r⟩, u⟩, v⟩; exact ⟨⟨⟨⟨r, u⟩, p⟩, q⟩, v⟩
  · rintro ⟨⟨⟨⟨r, u⟩, p⟩, q⟩, v⟩; exact ⟨⟨⟨⟨p, q⟩, r⟩, u⟩, v⟩
theorem eqT_no {s t : St} (h : VB s = false ∨ VB t = false) : eqTB s t = false := by
  unfold eqTB
  rcases h with h | h
  · rw [h]; rfl
  · rw [h]; simp
/-- two sets, one behind the other, are a slice of sets -/
theorem rdT_two {W : World} {a b : St} {a1 a2 a3 b1 b2 b3 : Value} (h : RdSt W a a1 a2 a3) (h' : RdSt W b b1 b2 b3) :
    RdT (W.alloc (.cells #[.int .i64 a.lf.1, a1, .int .i64 a.rt.1, a2, .int .i64 a.fr, .int .i64 a.to, a3, .int .i64 b.lf.1, b1, .int .i64 b.rt.1, b2, .int .i64 b.fr, .int .i64 b.to, b3] 26)) (.slice (some ⟨W.heap.size, 0, none⟩) 2 2) [(a, a1, a2, a3), (b, b1, b2, b3)] := by
  have hb := (Below.refl W.heap.size W).alloc (Nat.le_refl _) (.cells #[.int .i64 a.lf.1, a1, .int .i64 a.rt.1, a2, .int .i64 a.fr, .int .i64 a.to, a3, .int .i64 b.lf.1, b1, .int .i64 b.rt.1, b2, .int .i64 b.fr, .int .i64 b.to, b3] 26)
  refine ⟨by simp, _, _, rfl, fun i x hx => ?_⟩
  rcases i with _ | _ | i
  · simp at hx
    subst hx
    refine ⟨keepSt hb h, ?_, ?_, ?_, ?_, ?_, ?_, ?_⟩ <;> simp [go_sem]
  · simp at hx
    subst hx
    refine ⟨keepSt hb h', ?_, ?_, ?_, ?_, ?_, ?_, ?_⟩ <;> simp [go_sem]
  · simp at hx

set_option maxRecDepth 100000 in
set_option maxHeartbeats 8000000 in
theorem law_SetForms (a b : St) (al ar av bl br bv : Value) (x : Int) (w : World) (ha : RdSt w a al ar av) (hb : RdSt w b bl br bv) (hx1 : -9223372036854775808 ≤ x) (hx2 : x ≤ 9223372036854775807) :
    Calls Tryz.prog 3 #[.agg #[.int .i64 a.lf.1, al, .int .i64 a.rt.1, ar, .int .i64 a.fr, .int .i64 a.to, av], .agg #[.int .i64 b.lf.1, bl, .int .i64 b.rt.1, br, .int .i64 b.fr, .int .i64 b.to, bv], .int .i64 x] w fun e w' => e = .returned (.bool true) ∧ Below w.heap.size w w' := by
  have HAW := Lib.hid (fun W => awake14_any W)
  have HLA := Lib.hid (fun v L W h => large14_any v L W h)
  have HVR := Lib.hid (fun W h => valid14_any a al ar av W h)
  have HVT := Lib.hid (fun W h => tvalid_any a al ar av W h)
  have HVB := Lib.hid (fun W h => valid14_any b bl br bv W h)
  have HOF := Lib.hid (fun W h => tof_any a al ar av W h)
  have HOR := Lib.hid (fun W h => of14_any a al ar av W h)
  have HSM := Lib.hid (fun T E al ar av bl br bv W h h' => same_any T E al ar av bl br bv W h h')
  have HHT := Lib.hid (fun W h => thas_wid a al ar av x W h hx1 hx2)
  have HHR := Lib.hid (fun (hg : VB a = true) W h => has14_wid a al ar av x W h (okS_of_VB hg) hx1 hx2)
  have HEQ := Lib.hid (fun W h h' => tequal_any a b al ar av bl br bv W h h')
  have HSA := Lib.hid (fun W h h' => same14_any a b al ar av bl br bv W h h')
  have HRA := Lib.hid ha
  have HRB := Lib.hid hb
  obtain ⟨a1, n1, e1⟩ := ha.1.form
  obtain ⟨a2, n2, e2⟩ := ha.2.1.form
  obtain ⟨a3, n3, e3⟩ := ha.2.2.form
  obtain ⟨b1, m1, e4⟩ := hb.1.form
  obtain ⟨b2, m2, e5⟩ := hb.2.1.form
  obtain ⟨b3, m3, e6⟩ := hb.2.2.form
  subst e1 e2 e3 e4 e5 e6
  clear ha hb
  obtain ⟨W, hWe⟩ : ∃ W, (w.alloc (.cells #[.int .i64 a.lf.1, .slice a1 a.lf.2.length n1, .int .i64 a.rt.1, .slice a2 a.rt.2.length n2, .int .i64 a.fr, .int .i64 a.to, .slice a3 a.l.length n3] 26)).alloc (.cells #[.int .i64 b.lf.1, .slice b1 b.lf.2.length m1, .int .i64 b.rt.1, .slice b2 b.rt.2.length m2, .int .i64 b.fr, .int .i64 b.to, .slice b3 b.l.length m3] 26) = W := ⟨_, rfl⟩
  have hW : Below w.heap.size w W := by rw [← hWe]; exact ((Below.refl _ w).alloc (Nat.le_refl _) _).alloc (by simp) _
  have HX : Hid (Set7 W w.heap.size (.int .i64 a.lf.1) (.slice a1 a.lf.2.length n1) (.int .i64 a.rt.1) (.slice a2 a.rt.2.length n2) (.int .i64 a.fr) (.int .i64 a.to) (.slice a3 a.l.length n3) ∧ Set7 W (w.heap.size + 1) (.int .i64 b.lf.1) (.slice b1 b.lf.2.length m1) (.int .i64 b.rt.1) (.slice b2 b.rt.2.length m2) (.int .i64 b.fr) (.int .i64 b.to) (.slice b3 b.l.length m3) ∧ RdSt W a (.slice a1 a.lf.2.length n1) (.slice a2 a.rt.2.length n2) (.slice a3 a.l.length n3) ∧ RdSt W b (.slice b1 b.lf.2.length m1) (.slice b2 b.rt.2.length m2) (.slice b3 b.l.length m3) ∧ Below w.heap.size w W) := by
    refine ⟨?_, ?_, keepSt hW HRA.out, keepSt hW HRB.out, hW⟩
    · rw [← hWe]
      refine ⟨⟨?_, ?_, ?_, ?_, ?_, ?_, ?_⟩, ?_, ?_, ?_, ?_, ?_, ?_, ?_⟩ <;> simp [go_sem]
    · rw [← hWe]
      refine ⟨⟨?_, ?_, ?_, ?_, ?_, ?_, ?_⟩, ?_, ?_, ?_, ?_, ?_, ?_, ?_⟩ <;> simp [go_sem]
  have HE := Lib.hid hWe
  clear hWe hW

  obtain ⟨T, hT⟩ : ∃ T, ofM a = T := ⟨_, rfl⟩
  have hT2 : ofF a = T := hT
  have HTP : Hid (∀ W e w', OfPost a W e w' → ∃ vl vr vv, e = .returned (.tuple #[.agg #[.int .i64 T.1.lf.1, vl, .int .i64 T.1.rt.1, vr, .int .i64 T.1.fr, .int .i64 T.1.to, vv], .int .i64 T.2]) ∧ RdSt w' T.1 vl vr vv ∧ Below W.heap.size W w') := by
    intro W e w' hp
    unfold OfPost at hp
    rw [hT2] at hp
    exact hp
  rw [hT] at HOF
  clear hT hT2
  obtain ⟨ga, hga⟩ : ∃ g, VB a = g := ⟨_, rfl⟩
  obtain ⟨gb, hgb⟩ : ∃ g, VB b = g := ⟨_, rfl⟩
  have HGA := Lib.hid hga
  have HGB := Lib.hid hgb
  rw [hga] at HVR HVT HHT
  rw [hgb] at HVB
  have HHR : Hid (ga = true → ∀ W, RdSt W a (.slice a1 a.lf.2.length n1) (.slice a2 a.rt.2.length n2) (.slice a3 a.l.length n3) → Calls Tryz.prog 22 #[.agg #[.int .i64 a.lf.1, .slice a1 a.lf.2.length n1, .int .i64 a.rt.1, .slice a2 a.rt.2.length n2, .int .i64 a.fr, .int .i64 a.to, .slice a3 a.l.length n3], .int .i64 x] W fun e w' => e = .returned (.bool (hasS a x)) ∧ Below W.heap.size W w') := fun hh W h => HHR.out (by rw [hga]; exact hh) W h
  clear hga hgb
  obtain ⟨hs, hhs⟩ : ∃ h, hasS a x = h := ⟨_, rfl⟩
  rw [hhs] at HHT HHR
  clear hhs
  obtain ⟨⟨⟨A0, A1, A2, A3, A4, A5, A6⟩, _⟩, ⟨⟨B0, B1, B2, B3, B4, B5, B6⟩, _⟩, _, _, hbe⟩ := HX.out
  go_enter Tryz.func3, Tryz.ntmps3
  go_wp2_with fail
  rw [HE.out]
  go_wp2_with fail
  refine (HAW.out _).mono ?_
  rintro e w1 ⟨rfl, hb⟩
  have HX1 := Lib.hid (And.intro (HX.out.1.below hb) (And.intro (HX.out.2.1.below hb) (And.intro (keepSt hb HX.out.2.2.1) (And.intro (keepSt hb HX.out.2.2.2.1) (keepBelow HX.out.2.2.2.2 hb)))))
  clear A0 A1 A2 A3 A4 A5 A6 B0 B1 B2 B3 B4 B5 B6 hbe
  obtain ⟨⟨⟨A0, A1, A2, A3, A4, A5, A6⟩, _⟩, ⟨⟨B0, B1, B2, B3, B4, B5, B6⟩, _⟩, _, _, hbe⟩ := HX1.out
  have HT2 := Lib.hid (rdT_two HX1.out.2.2.1 HX1.out.2.2.2.1)
  clear hb
  have hb := (Below.refl w1.heap.size w1).alloc (Nat.le_refl _) (.cells #[.int .i64 a.lf.1, .slice a1 a.lf.2.length n1, .int .i64 a.rt.1, .slice a2 a.rt.2.length n2, .int .i64 a.fr, .int .i64 a.to, .slice a3 a.l.length n3, .int .i64 b.lf.1, .slice b1 b.lf.2.length m1, .int .i64 b.rt.1, .slice b2 b.rt.2.length m2, .int .i64 b.fr, .int .i64 b.to, .slice b3 b.l.length m3] 26)
  have HX1' := Lib.hid (And.intro (HX1.out.1.below hb) (And.intro (HX1.out.2.1.below hb) (And.intro (keepSt hb HX1.out.2.2.1) (And.intro (keepSt hb HX1.out.2.2.2.1) (keepBelow HX1.out.2.2.2.2 hb)))))
  go_wp2_with fail
  refine (HLA.out _ _ _ HT2.out).mono ?_
  rintro e w2 ⟨rfl, hb⟩
  have HX2 := Lib.hid (And.intro (HX1'.out.1.below hb) (And.intro (HX1'.out.2.1.below hb) (And.intro (keepSt hb HX1'.out.2.2.1) (And.intro (keepSt hb HX1'.out.2.2.2.1) (keepBelow HX1'.out.2.2.2.2 hb)))))
  clear A0 A1 A2 A3 A4 A5 A6 B0 B1 B2 B3 B4 B5 B6 hbe
  obtain ⟨⟨⟨A0, A1, A2, A3, A4, A5, A6⟩, _⟩, ⟨⟨B0, B1, B2, B3, B4, B5, B6⟩, _⟩, _, _, hbe⟩ := HX2.out
  clear hb HT2
  obtain ⟨lg, hlg⟩ : ∃ g, anyL [(a, .slice a1 a.lf.2.length n1, .slice a2 a.rt.2.length n2, .slice a3 a.l.length n3), (b, .slice b1 b.lf.2.length m1, .slice b2 b.rt.2.length m2, .slice b3 b.l.length m3)] = g := ⟨_, rfl⟩
  rw [hlg]
  clear hlg
  cases lg with
  | true =>
    go_wp2
    go_ret
    exact ⟨rfl, hbe⟩
  | false =>
  go_wp2_with fail
  refine (HVR.out _ HX2.out.2.2.1).mono ?_
  rintro e w3 ⟨rfl, hb⟩
  have HX3 := Lib.hid (And.intro (HX2.out.1.below hb) (And.intro (HX2.out.2.1.below hb) (And.intro (keepSt hb HX2.out.2.2.1) (And.intro (keepSt hb HX2.out.2.2.2.1) (keepBelow HX2.out.2.2.2.2 hb)))))
  clear A0 A1 A2 A3 A4 A5 A6 B0 B1 B2 B3 B4 B5 B6 hbe
  obtain ⟨⟨⟨A0, A1, A2, A3, A4, A5, A6⟩, _⟩, ⟨⟨B0, B1, B2, B3, B4, B5, B6⟩, _⟩, _, _, hbe⟩ := HX3.out
  clear hb
  go_wp2_with fail
  refine (HOF.out _ HX3.out.2.2.1).mono ?_
  rintro e w4 ⟨vl, vr, vv, rfl, hr, hb⟩
  obtain ⟨c1, d1, rfl⟩ := hr.1.form
  obtain ⟨c2, d2, rfl⟩ := hr.2.1.form
  obtain ⟨c3, d3, rfl⟩ := hr.2.2.form
  have HX4 := Lib.hid (And.intro (HX3.out.1.below hb) (And.intro (HX3.out.2.1.below hb) (And.intro (keepSt hb HX3.out.2.2.1) (And.intro (keepSt hb HX3.out.2.2.2.1) (keepBelow HX3.out.2.2.2.2 hb)))))
  clear hb
  have hb := (Below.refl w4.heap.size w4).alloc (Nat.le_refl _) (.cells #[.int .i64 T.1.lf.1, .slice c1 T.1.lf.2.length d1, .int .i64 T.1.rt.1, .slice c2 T.1.rt.2.length d2, .int .i64 T.1.fr, .int .i64 T.1.to, .slice c3 T.1.l.length d3] 26)
  have HX4' := Lib.hid (And.intro (HX4.out.1.below hb) (And.intro (HX4.out.2.1.below hb) (And.intro (keepSt hb HX4.out.2.2.1) (And.intro (keepSt hb HX4.out.2.2.2.1) (keepBelow HX4.out.2.2.2.2 hb)))))
  have HRT := Lib.hid (keepSt hb hr)
  have HBT := Lib.hid (set7_new w4 (.int .i64 T.1.lf.1) (.slice c1 T.1.lf.2.length d1) (.int .i64 T.1.rt.1) (.slice c2 T.1.rt.2.length d2) (.int .i64 T.1.fr) (.int .i64 T.1.to) (.slice c3 T.1.l.length d3))
  clear A0 A1 A2 A3 A4 A5 A6 B0 B1 B2 B3 B4 B5 B6 hbe
  obtain ⟨⟨⟨A0, A1, A2, A3, A4, A5, A6⟩, _⟩, ⟨⟨B0, B1, B2, B3, B4, B5, B6⟩, _⟩, _, _, hbe⟩ := HX4'.out
  clear hb hr
  go_wp2_with fail
  refine (HOR.out _ HX4'.out.2.2.1).mono ?_
  rintro e w5 hp
  obtain ⟨ul, ur, uv, rfl, hr, hb⟩ := HTP.out _ _ _ hp
  obtain ⟨k1, l1, rfl⟩ := hr.1.form
  obtain ⟨k2, l2, rfl⟩ := hr.2.1.form
  obtain ⟨k3, l3, rfl⟩ := hr.2.2.form
  have HX5 := Lib.hid (And.intro (HX4'.out.1.below hb) (And.intro (HX4'.out.2.1.below hb) (And.intro (keepSt hb HX4'.out.2.2.1) (And.intro (keepSt hb HX4'.out.2.2.2.1) (keepBelow HX4'.out.2.2.2.2 hb)))))
  have HRT := Lib.hid (keepSt hb HRT.out)
  have HBT := Lib.hid (HBT.out.below hb)
  clear hb hp
  have hb := (Below.refl w5.heap.size w5).alloc (Nat.le_refl _) (.cells #[.int .i64 T.1.lf.1, .slice k1 T.1.lf.2.length l1, .int .i64 T.1.rt.1, .slice k2 T.1.rt.2.length l2, .int .i64 T.1.fr, .int .i64 T.1.to, .slice k3 T.1.l.length l3] 26)
  have HX5' := Lib.hid (And.intro (HX5.out.1.below hb) (And.intro (HX5.out.2.1.below hb) (And.intro (keepSt hb HX5.out.2.2.1) (And.intro (keepSt hb HX5.out.2.2.2.1) (keepBelow HX5.out.2.2.2.2 hb)))))
  have HRT := Lib.hid (keepSt hb HRT.out)
  have HBT := Lib.hid (HBT.out.below hb)
  have HRU := Lib.hid (keepSt hb hr)
  have HBU := Lib.hid (set7_new w5 (.int .i64 T.1.lf.1) (.slice k1 T.1.lf.2.length l1) (.int .i64 T.1.rt.1) (.slice k2 T.1.rt.2.length l2) (.int .i64 T.1.fr) (.int .i64 T.1.to) (.slice k3 T.1.l.length l3))
  clear A0 A1 A2 A3 A4 A5 A6 B0 B1 B2 B3 B4 B5 B6 hbe
  obtain ⟨⟨⟨A0, A1, A2, A3, A4, A5, A6⟩, _⟩, ⟨⟨B0, B1, B2, B3, B4, B5, B6⟩, _⟩, _, _, hbe⟩ := HX5'.out
  obtain ⟨⟨C0, C1, C2, C3, C4, C5, C6⟩, _⟩ := HBT.out
  obtain ⟨⟨D0, D1, D2, D3, D4, D5, D6⟩, _⟩ := HBU.out
  clear hb hr
  go_wp2_with fail
  refine (HSM.out _ _ _ _ _ _ _ _ _ HRT.out HRU.out).mono ?_
  rintro e w6 ⟨rfl, hb⟩
  have HX6 := Lib.hid (And.intro (HX5'.out.1.below hb) (And.intro (HX5'.out.2.1.below hb) (And.intro (keepSt hb HX5'.out.2.2.1) (And.intro (keepSt hb HX5'.out.2.2.2.1) (keepBelow HX5'.out.2.2.2.2 hb)))))
  clear A0 A1 A2 A3 A4 A5 A6 B0 B1 B2 B3 B4 B5 B6 hbe
  clear hb C0 C1 C2 C3 C4 C5 C6 D0 D1 D2 D3 D4 D5 D6 HRT HRU HBT HBU
  obtain ⟨⟨⟨A0, A1, A2, A3, A4, A5, A6⟩, _⟩, ⟨⟨B0, B1, B2, B3, B4, B5, B6⟩, _⟩, _, _, hbe⟩ := HX6.out
  go_wp2_with fail
  refine (HVT.out _ HX6.out.2.2.1).mono ?_
  rintro e w7 ⟨rfl, hb⟩
  have HX7 := Lib.hid (And.intro (HX6.out.1.below hb) (And.intro (HX6.out.2.1.below hb) (And.intro (keepSt hb HX6.out.2.2.1) (And.intro (keepSt hb HX6.out.2.2.2.1) (keepBelow HX6.out.2.2.2.2 hb)))))
  clear A0 A1 A2 A3 A4 A5 A6 B0 B1 B2 B3 B4 B5 B6 hbe
  obtain ⟨⟨⟨A0, A1, A2, A3, A4, A5, A6⟩, _⟩, ⟨⟨B0, B1, B2, B3, B4, B5, B6⟩, _⟩, _, _, hbe⟩ := HX7.out
  clear hb
  have gg : (ga != ga) = false := by cases ga <;> rfl
  go_wp2_with fail
  refine (HHT.out _ HX7.out.2.2.1).mono ?_
  rintro e w8 ⟨rfl, hb⟩
  have HX8 := Lib.hid (And.intro (HX7.out.1.below hb) (And.intro (HX7.out.2.1.below hb) (And.intro (keepSt hb HX7.out.2.2.1) (And.intro (keepSt hb HX7.out.2.2.2.1) (keepBelow HX7.out.2.2.2.2 hb)))))
  clear A0 A1 A2 A3 A4 A5 A6 B0 B1 B2 B3 B4 B5 B6 hbe
  obtain ⟨⟨⟨A0, A1, A2, A3, A4, A5, A6⟩, _⟩, ⟨⟨B0, B1, B2, B3, B4, B5, B6⟩, _⟩, _, _, hbe⟩ := HX8.out
  clear hb
  cases ga with
  | false =>
    have HQ : Hid (eqTB a b = false) := eqT_no (.inl HGA.out)
    rw [HQ.out] at HEQ
    go_wp2_with fail
    refine (HEQ.out _ HX8.out.2.2.1 HX8.out.2.2.2.1).mono ?_
    rintro e w9 ⟨rfl, hb⟩
    have hbe := keepBelow hbe hb
    go_wp2
    go_ret
    exact ⟨rfl, hbe⟩
  | true =>
  have HHR' := Lib.hid (fun W h => HHR.out (by first | rfl | trivial) W h)
  go_wp2_with fail
  refine (HHR'.out _ HX8.out.2.2.1).mono ?_
  rintro e w9 ⟨rfl, hb⟩
  have HX9 := Lib.hid (And.intro (HX8.out.1.below hb) (And.intro (HX8.out.2.1.below hb) (And.intro (keepSt hb HX8.out.2.2.1) (And.intro (keepSt hb HX8.out.2.2.2.1) (keepBelow HX8.out.2.2.2.2 hb)))))
  clear A0 A1 A2 A3 A4 A5 A6 B0 B1 B2 B3 B4 B5 B6 hbe
  obtain ⟨⟨⟨A0, A1, A2, A3, A4, A5, A6⟩, _⟩, ⟨⟨B0, B1, B2, B3, B4, B5, B6⟩, _⟩, _, _, hbe⟩ := HX9.out
  clear hb
  have hh : (hs == hs) = true := by cases hs <;> rfl
  obtain ⟨q, hq⟩ : ∃ q, eqTB a b = q := ⟨_, rfl⟩
  rw [hq] at HEQ
  have HQ := Lib.hid hq
  clear hq
  go_wp2_with fail
  refine (HEQ.out _ HX9.out.2.2.1 HX9.out.2.2.2.1).mono ?_
  rintro e w10 ⟨rfl, hb⟩
  have HX10 := Lib.hid (And.intro (HX9.out.1.below hb) (And.intro (HX9.out.2.1.below hb) (And.intro (keepSt hb HX9.out.2.2.1) (And.intro (keepSt hb HX9.out.2.2.2.1) (keepBelow HX9.out.2.2.2.2 hb)))))
  clear A0 A1 A2 A3 A4 A5 A6 B0 B1 B2 B3 B4 B5 B6 hbe
  obtain ⟨⟨⟨A0, A1, A2, A3, A4, A5, A6⟩, _⟩, ⟨⟨B0, B1, B2, B3, B4, B5, B6⟩, _⟩, _, _, hbe⟩ := HX10.out
  clear hb
  go_wp2_with fail
  refine (HVB.out _ HX10.out.2.2.2.1).mono ?_
  rintro e w11 ⟨rfl, hb⟩
  have HX11 := Lib.hid (And.intro (HX10.out.1.below hb) (And.intro (HX10.out.2.1.below hb) (And.intro (keepSt hb HX10.out.2.2.1) (And.intro (keepSt hb HX10.out.2.2.2.1) (keepBelow HX10.out.2.2.2.2 hb)))))
  clear A0 A1 A2 A3 A4 A5 A6 B0 B1 B2 B3 B4 B5 B6 hbe
  obtain ⟨⟨⟨A0, A1, A2, A3, A4, A5, A6⟩, _⟩, ⟨⟨B0, B1, B2, B3, B4, B5, B6⟩, _⟩, _, _, hbe⟩ := HX11.out
  clear hb
  cases gb with
  | false =>
    have HQ2 : Hid (q = false) := HQ.out.symm.trans (eqT_no (.inr HGB.out))
    rw [HQ2.out]
    go_wp2
    go_ret
    exact ⟨rfl, hbe⟩
  | true =>
  have HQ2 : Hid (sameB a b = q) := (eqT_same HGA.out HGB.out).symm.trans HQ.out
  rw [HQ2.out] at HSA
  have qq : (q == q) = true := by cases q <;> rfl
  go_wp2_with fail
  refine (HSA.out _ HX11.out.2.2.1 HX11.out.2.2.2.1).mono ?_
  rintro e w12 ⟨rfl, hb⟩
  have hbe := keepBelow hbe hb
  go_wp2
  go_ret
  exact ⟨rfl, hbe⟩
end Go.Proofs.YtnjpceocnldlfaaGreat
