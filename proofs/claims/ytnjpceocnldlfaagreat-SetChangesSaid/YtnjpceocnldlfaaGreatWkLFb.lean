import Derived.Test.YtnjpceocnldlfaaGreatWkLq
import Derived.Test.YtnjpceocnldlfaaGreatWkLF2
import Derived.Test.YtnjpceocnldlfaaGreatWkRo
import Derived.Test.YtnjpceocnldlfaaGreatWkTo
/- The law SetChanges. -/
namespace Go.Proofs.YtnjpceocnldlfaaGreat
open Go.RowKit Wk

set_option maxRecDepth 100000 in
set_option maxHeartbeats 16000000 in
theorem law_SetChanges (a : St) (al ar av : Value) (n : Int) (w : World) (ha : RdSt w a al ar av) (hn1 : -9223372036854775808 ≤ n) (hn2 : n ≤ 9223372036854775807) :
    Calls Tryz.prog 12 #[.agg #[.int .i64 a.lf.1, al, .int .i64 a.rt.1, ar, .int .i64 a.fr, .int .i64 a.to, av], .int .i64 n] w fun e w' => e = .returned (.bool true) ∧ Below w.heap.size w w' := by
  have HAW := Lib.hid (fun W => awake14_any W)
  have HLA := Lib.hid (fun v L W h => large14_any v L W h)
  have HTN := Lib.hid (fun W h => tnot_any a al ar av W h)
  have HRN := Lib.hid (fun W h => not14_any a al ar av W h)
  have HTM := Lib.hid (fun W h => tmove_any a n al ar av W h hn1 hn2)
  have HRM := Lib.hid (fun W h => move14_any a n al ar av W h hn1 hn2)
  have HSM := Lib.hid (fun T E al ar av bl br bv W h h' => same_any T E al ar av bl br bv W h h')
  have HRA := Lib.hid ha
  obtain ⟨a1, an1, e1⟩ := ha.1.form
  obtain ⟨a2, an2, e2⟩ := ha.2.1.form
  obtain ⟨a3, an3, e3⟩ := ha.2.2.form
  subst e1 e2 e3
  clear ha
  obtain ⟨W, hWe⟩ : ∃ W, w.alloc (.cells #[.int .i64 a.lf.1, (.slice a1 a.lf.2.length an1), .int .i64 a.rt.1, (.slice a2 a.rt.2.length an2), .int .i64 a.fr, .int .i64 a.to, (.slice a3 a.l.length an3)] 26) = W := ⟨_, rfl⟩
  have hW : Below w.heap.size w W := by rw [← hWe]; exact (Below.refl _ w).alloc (Nat.le_refl _) _
  have HX : Hid (Set7 W w.heap.size (.int .i64 a.lf.1) (.slice a1 a.lf.2.length an1) (.int .i64 a.rt.1) (.slice a2 a.rt.2.length an2) (.int .i64 a.fr) (.int .i64 a.to) (.slice a3 a.l.length an3) ∧ RdSt W a (.slice a1 a.lf.2.length an1) (.slice a2 a.rt.2.length an2) (.slice a3 a.l.length an3) ∧ Below w.heap.size w W) := by
    refine ⟨?_, keepSt hW HRA.out, hW⟩
    rw [← hWe]
    refine ⟨⟨?_, ?_, ?_, ?_, ?_, ?_, ?_⟩, ?_, ?_, ?_, ?_, ?_, ?_, ?_⟩ <;> simp [go_sem]
  have HE := Lib.hid hWe
  clear hWe hW
  obtain ⟨T, hT⟩ : ∃ T, setNot a = T := ⟨_, rfl⟩
  obtain ⟨U, hU⟩ : ∃ U, setMove n a = U := ⟨_, rfl⟩
  rw [hT] at HTN HRN
  rw [hU] at HTM HRM
  clear hT hU
  obtain ⟨⟨⟨A0, A1, A2, A3, A4, A5, A6⟩, _⟩, _, hbe⟩ := HX.out
  go_enter Tryz.func12, Tryz.ntmps12
  go_wp2_with fail
  rw [HE.out]
  go_wp2_with fail
  refine (HAW.out _).mono ?_
  rintro e w1 ⟨rfl, hb⟩
  have HX1 := Lib.hid (And.intro (HX.out.1.below hb) (And.intro (keepSt hb HX.out.2.1) (keepBelow HX.out.2.2 hb)))
  clear A0 A1 A2 A3 A4 A5 A6 hbe
  obtain ⟨⟨⟨A0, A1, A2, A3, A4, A5, A6⟩, _⟩, _, hbe⟩ := HX1.out
  clear hb
  have HT1 := Lib.hid (rdT_one HX1.out.2.1)
  have hb := (Below.refl w1.heap.size w1).alloc (Nat.le_refl _) (.cells #[.int .i64 a.lf.1, (.slice a1 a.lf.2.length an1), .int .i64 a.rt.1, (.slice a2 a.rt.2.length an2), .int .i64 a.fr, .int .i64 a.to, (.slice a3 a.l.length an3)] 26)
  have HX1' := Lib.hid (And.intro (HX1.out.1.below hb) (And.intro (keepSt hb HX1.out.2.1) (keepBelow HX1.out.2.2 hb)))
  go_wp2_with fail
  refine (HLA.out _ _ _ HT1.out).mono ?_
  rintro e w2 ⟨rfl, hb⟩
  have HX2 := Lib.hid (And.intro (HX1'.out.1.below hb) (And.intro (keepSt hb HX1'.out.2.1) (keepBelow HX1'.out.2.2 hb)))
  clear A0 A1 A2 A3 A4 A5 A6 hbe
  obtain ⟨⟨⟨A0, A1, A2, A3, A4, A5, A6⟩, _⟩, _, hbe⟩ := HX2.out
  clear hb HT1
  obtain ⟨lg, hlg⟩ : ∃ g, anyL [(a, .slice a1 a.lf.2.length an1, .slice a2 a.rt.2.length an2, .slice a3 a.l.length an3)] = g := ⟨_, rfl⟩
  rw [hlg]
  clear hlg
  cases lg with
  | true =>
    go_wp2
    go_ret
    exact ⟨rfl, hbe⟩
  | false =>
  go_wp2_with fail
  refine (HTN.out _ HX2.out.2.1).mono ?_
  rintro e w3 ⟨vl, vr, vv, rfl, hr, hb⟩
  obtain ⟨c1, cm1, rfl⟩ := hr.1.form
  obtain ⟨c2, cm2, rfl⟩ := hr.2.1.form
  obtain ⟨c3, cm3, rfl⟩ := hr.2.2.form
  have HY3 := Lib.hid (And.intro (HX2.out.1.below hb) (And.intro (keepSt hb HX2.out.2.1) (keepBelow HX2.out.2.2 hb)))
  clear A0 A1 A2 A3 A4 A5 A6 hbe
  clear hb
  have hb := (Below.refl w3.heap.size w3).alloc (Nat.le_refl _) (.cells #[.int .i64 T.1.lf.1, .slice c1 T.1.lf.2.length cm1, .int .i64 T.1.rt.1, .slice c2 T.1.rt.2.length cm2, .int .i64 T.1.fr, .int .i64 T.1.to, .slice c3 T.1.l.length cm3] 26)
  have HZ3 := Lib.hid (And.intro (HY3.out.1.below hb) (And.intro (keepSt hb HY3.out.2.1) (keepBelow HY3.out.2.2 hb)))
  have HN3 := Lib.hid (And.intro (set7_new w3 (.int .i64 T.1.lf.1) (.slice c1 T.1.lf.2.length cm1) (.int .i64 T.1.rt.1) (.slice c2 T.1.rt.2.length cm2) (.int .i64 T.1.fr) (.int .i64 T.1.to) (.slice c3 T.1.l.length cm3)) (keepSt hb hr))
  have HK3 := Lib.hid (And.intro HZ3.out.1 (And.intro HZ3.out.2.1 (And.intro HN3.out.1 (And.intro HN3.out.2 HZ3.out.2.2))))
  clear hb hr HY3 HZ3 HN3
  obtain ⟨⟨⟨A0, A1, A2, A3, A4, A5, A6⟩, _⟩, _, ⟨⟨C0, C1, C2, C3, C4, C5, C6⟩, _⟩, _, hbe⟩ := HK3.out
  go_wp2_with fail
  refine (HRN.out _ HK3.out.2.1).mono ?_
  rintro e w4 ⟨vl, vr, vv, rfl, hr, hb⟩
  obtain ⟨d1, dm1, rfl⟩ := hr.1.form
  obtain ⟨d2, dm2, rfl⟩ := hr.2.1.form
  obtain ⟨d3, dm3, rfl⟩ := hr.2.2.form
  have HY4 := Lib.hid (And.intro (HK3.out.1.below hb) (And.intro (keepSt hb HK3.out.2.1) (And.intro (HK3.out.2.2.1.below hb) (And.intro (keepSt hb HK3.out.2.2.2.1) (keepBelow HK3.out.2.2.2.2 hb)))))
  clear A0 A1 A2 A3 A4 A5 A6 C0 C1 C2 C3 C4 C5 C6 hbe
  clear hb
  have hb := (Below.refl w4.heap.size w4).alloc (Nat.le_refl _) (.cells #[.int .i64 T.1.lf.1, .slice d1 T.1.lf.2.length dm1, .int .i64 T.1.rt.1, .slice d2 T.1.rt.2.length dm2, .int .i64 T.1.fr, .int .i64 T.1.to, .slice d3 T.1.l.length dm3] 26)
  have HZ4 := Lib.hid (And.intro (HY4.out.1.below hb) (And.intro (keepSt hb HY4.out.2.1) (And.intro (HY4.out.2.2.1.below hb) (And.intro (keepSt hb HY4.out.2.2.2.1) (keepBelow HY4.out.2.2.2.2 hb)))))
  have HN4 := Lib.hid (And.intro (set7_new w4 (.int .i64 T.1.lf.1) (.slice d1 T.1.lf.2.length dm1) (.int .i64 T.1.rt.1) (.slice d2 T.1.rt.2.length dm2) (.int .i64 T.1.fr) (.int .i64 T.1.to) (.slice d3 T.1.l.length dm3)) (keepSt hb hr))
  have HK4 := Lib.hid (And.intro HZ4.out.1 (And.intro HZ4.out.2.1 (And.intro HZ4.out.2.2.1 (And.intro HZ4.out.2.2.2.1 (And.intro HN4.out.1 (And.intro HN4.out.2 HZ4.out.2.2.2.2))))))
  clear hb hr HY4 HZ4 HN4
  obtain ⟨⟨⟨A0, A1, A2, A3, A4, A5, A6⟩, _⟩, _, ⟨⟨C0, C1, C2, C3, C4, C5, C6⟩, _⟩, _, ⟨⟨D0, D1, D2, D3, D4, D5, D6⟩, _⟩, _, hbe⟩ := HK4.out
  go_wp2_with fail
  refine (HTM.out _ HK4.out.2.1).mono ?_
  rintro e w5 ⟨vl, vr, vv, rfl, hr, hb⟩
  obtain ⟨f1, fm1, rfl⟩ := hr.1.form
  obtain ⟨f2, fm2, rfl⟩ := hr.2.1.form
  obtain ⟨f3, fm3, rfl⟩ := hr.2.2.form
  have HY5 := Lib.hid (And.intro (HK4.out.1.below hb) (And.intro (keepSt hb HK4.out.2.1) (And.intro (HK4.out.2.2.1.below hb) (And.intro (keepSt hb HK4.out.2.2.2.1) (And.intro (HK4.out.2.2.2.2.1.below hb) (And.intro (keepSt hb HK4.out.2.2.2.2.2.1) (keepBelow HK4.out.2.2.2.2.2.2 hb)))))))
  clear A0 A1 A2 A3 A4 A5 A6 C0 C1 C2 C3 C4 C5 C6 D0 D1 D2 D3 D4 D5 D6 hbe
  clear hb
  have hb := (Below.refl w5.heap.size w5).alloc (Nat.le_refl _) (.cells #[.int .i64 U.1.lf.1, .slice f1 U.1.lf.2.length fm1, .int .i64 U.1.rt.1, .slice f2 U.1.rt.2.length fm2, .int .i64 U.1.fr, .int .i64 U.1.to, .slice f3 U.1.l.length fm3] 26)
  have HZ5 := Lib.hid (And.intro (HY5.out.1.below hb) (And.intro (keepSt hb HY5.out.2.1) (And.intro (HY5.out.2.2.1.below hb) (And.intro (keepSt hb HY5.out.2.2.2.1) (And.intro (HY5.out.2.2.2.2.1.below hb) (And.intro (keepSt hb HY5.out.2.2.2.2.2.1) (keepBelow HY5.out.2.2.2.2.2.2 hb)))))))
  have HN5 := Lib.hid (And.intro (set7_new w5 (.int .i64 U.1.lf.1) (.slice f1 U.1.lf.2.length fm1) (.int .i64 U.1.rt.1) (.slice f2 U.1.rt.2.length fm2) (.int .i64 U.1.fr) (.int .i64 U.1.to) (.slice f3 U.1.l.length fm3)) (keepSt hb hr))
  have HK5 := Lib.hid (And.intro HZ5.out.1 (And.intro HZ5.out.2.1 (And.intro HZ5.out.2.2.1 (And.intro HZ5.out.2.2.2.1 (And.intro HZ5.out.2.2.2.2.1 (And.intro HZ5.out.2.2.2.2.2.1 (And.intro HN5.out.1 (And.intro HN5.out.2 HZ5.out.2.2.2.2.2.2))))))))
  clear hb hr HY5 HZ5 HN5
  obtain ⟨⟨⟨A0, A1, A2, A3, A4, A5, A6⟩, _⟩, _, ⟨⟨C0, C1, C2, C3, C4, C5, C6⟩, _⟩, _, ⟨⟨D0, D1, D2, D3, D4, D5, D6⟩, _⟩, _, ⟨⟨F0, F1, F2, F3, F4, F5, F6⟩, _⟩, _, hbe⟩ := HK5.out
  go_wp2_with fail
  refine (HRM.out _ HK5.out.2.1).mono ?_
  rintro e w6 ⟨vl, vr, vv, rfl, hr, hb⟩
  obtain ⟨g1, gm1, rfl⟩ := hr.1.form
  obtain ⟨g2, gm2, rfl⟩ := hr.2.1.form
  obtain ⟨g3, gm3, rfl⟩ := hr.2.2.form
  have HY6 := Lib.hid (And.intro (HK5.out.1.below hb) (And.intro (keepSt hb HK5.out.2.1) (And.intro (HK5.out.2.2.1.below hb) (And.intro (keepSt hb HK5.out.2.2.2.1) (And.intro (HK5.out.2.2.2.2.1.below hb) (And.intro (keepSt hb HK5.out.2.2.2.2.2.1) (And.intro (HK5.out.2.2.2.2.2.2.1.below hb) (And.intro (keepSt hb HK5.out.2.2.2.2.2.2.2.1) (keepBelow HK5.out.2.2.2.2.2.2.2.2 hb)))))))))
  clear A0 A1 A2 A3 A4 A5 A6 C0 C1 C2 C3 C4 C5 C6 D0 D1 D2 D3 D4 D5 D6 F0 F1 F2 F3 F4 F5 F6 hbe
  clear hb
  have hb := (Below.refl w6.heap.size w6).alloc (Nat.le_refl _) (.cells #[.int .i64 U.1.lf.1, .slice g1 U.1.lf.2.length gm1, .int .i64 U.1.rt.1, .slice g2 U.1.rt.2.length gm2, .int .i64 U.1.fr, .int .i64 U.1.to, .slice g3 U.1.l.length gm3] 26)
  have HZ6 := Lib.hid (And.intro (HY6.out.1.below hb) (And.intro (keepSt hb HY6.out.2.1) (And.intro (HY6.out.2.2.1.below hb) (And.intro (keepSt hb HY6.out.2.2.2.1) (And.intro (HY6.out.2.2.2.2.1.below hb) (And.intro (keepSt hb HY6.out.2.2.2.2.2.1) (And.intro (HY6.out.2.2.2.2.2.2.1.below hb) (And.intro (keepSt hb HY6.out.2.2.2.2.2.2.2.1) (keepBelow HY6.out.2.2.2.2.2.2.2.2 hb)))))))))
  have HN6 := Lib.hid (And.intro (set7_new w6 (.int .i64 U.1.lf.1) (.slice g1 U.1.lf.2.length gm1) (.int .i64 U.1.rt.1) (.slice g2 U.1.rt.2.length gm2) (.int .i64 U.1.fr) (.int .i64 U.1.to) (.slice g3 U.1.l.length gm3)) (keepSt hb hr))
  have HK6 := Lib.hid (And.intro HZ6.out.1 (And.intro HZ6.out.2.1 (And.intro HZ6.out.2.2.1 (And.intro HZ6.out.2.2.2.1 (And.intro HZ6.out.2.2.2.2.1 (And.intro HZ6.out.2.2.2.2.2.1 (And.intro HZ6.out.2.2.2.2.2.2.1 (And.intro HZ6.out.2.2.2.2.2.2.2.1 (And.intro HN6.out.1 (And.intro HN6.out.2 HZ6.out.2.2.2.2.2.2.2.2))))))))))
  clear hb hr HY6 HZ6 HN6
  obtain ⟨⟨⟨A0, A1, A2, A3, A4, A5, A6⟩, _⟩, _, ⟨⟨C0, C1, C2, C3, C4, C5, C6⟩, _⟩, _, ⟨⟨D0, D1, D2, D3, D4, D5, D6⟩, _⟩, _, ⟨⟨F0, F1, F2, F3, F4, F5, F6⟩, _⟩, _, ⟨⟨G0, G1, G2, G3, G4, G5, G6⟩, _⟩, _, hbe⟩ := HK6.out
  go_wp2_with fail
  refine (HSM.out _ _ _ _ _ _ _ _ _ HK6.out.2.2.2.1 HK6.out.2.2.2.2.2.1).mono ?_
  rintro e w7 ⟨rfl, hb⟩
  have HK7 := Lib.hid (And.intro (HK6.out.1.below hb) (And.intro (keepSt hb HK6.out.2.1) (And.intro (HK6.out.2.2.1.below hb) (And.intro (keepSt hb HK6.out.2.2.2.1) (And.intro (HK6.out.2.2.2.2.1.below hb) (And.intro (keepSt hb HK6.out.2.2.2.2.2.1) (And.intro (HK6.out.2.2.2.2.2.2.1.below hb) (And.intro (keepSt hb HK6.out.2.2.2.2.2.2.2.1) (And.intro (HK6.out.2.2.2.2.2.2.2.2.1.below hb) (And.intro (keepSt hb HK6.out.2.2.2.2.2.2.2.2.2.1) (keepBelow HK6.out.2.2.2.2.2.2.2.2.2.2 hb)))))))))))
  clear A0 A1 A2 A3 A4 A5 A6 C0 C1 C2 C3 C4 C5 C6 D0 D1 D2 D3 D4 D5 D6 F0 F1 F2 F3 F4 F5 F6 G0 G1 G2 G3 G4 G5 G6 hbe
  obtain ⟨⟨⟨A0, A1, A2, A3, A4, A5, A6⟩, _⟩, _, ⟨⟨C0, C1, C2, C3, C4, C5, C6⟩, _⟩, _, ⟨⟨D0, D1, D2, D3, D4, D5, D6⟩, _⟩, _, ⟨⟨F0, F1, F2, F3, F4, F5, F6⟩, _⟩, _, ⟨⟨G0, G1, G2, G3, G4, G5, G6⟩, _⟩, _, hbe⟩ := HK7.out
  clear hb
  go_wp2_with fail
  refine (HSM.out _ _ _ _ _ _ _ _ _ HK7.out.2.2.2.2.2.2.2.1 HK7.out.2.2.2.2.2.2.2.2.2.1).mono ?_
  rintro e w8 ⟨rfl, hb⟩
  have hbe := keepBelow hbe hb
  go_wp2
  go_ret
  exact ⟨rfl, hbe⟩
end Go.Proofs.YtnjpceocnldlfaaGreat
