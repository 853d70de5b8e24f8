import Derived.Test.YtnjpceocnldlfaaGreatWkTo
import Derived.Test.YtnjpceocnldlfaaGreatWkLF1
import Derived.Test.YtnjpceocnldlfaaGreatWkTq
import Derived.Test.YtnjpceocnldlfaaGreatWkPu
import Derived.Test.YtnjpceocnldlfaaGreatWkSeg
/- The law SetPoints. -/
namespace Go.Proofs.YtnjpceocnldlfaaGreat
open Go.RowKit Wk

set_option maxRecDepth 100000 in
set_option maxHeartbeats 32000000 in
theorem law_SetPoints (a b : St) (al ar av bl br bv : Value) (x n : Int) (w : World) (ha : RdSt w a al ar av) (hb : RdSt w b bl br bv) (hx1 : -9223372036854775808 ≤ x) (hx2 : x ≤ 9223372036854775807) (hn1 : -9223372036854775808 ≤ n) (hn2 : n ≤ 9223372036854775807) :
    Calls Tryz.prog 13 #[.agg #[.int .i64 a.lf.1, al, .int .i64 a.rt.1, ar, .int .i64 a.fr, .int .i64 a.to, av], .agg #[.int .i64 b.lf.1, bl, .int .i64 b.rt.1, br, .int .i64 b.fr, .int .i64 b.to, bv], .int .i64 x, .int .i64 n] w fun e w' => e = .returned (.bool true) ∧ Below w.heap.size w w' := by
  have HAW := Lib.hid (fun W => awake14_any W)
  have HLA := Lib.hid (fun v L W h => large14_any v L W h)
  have HU1 := Lib.hid (fun W h h' => tUnion_any a b al ar av bl br bv W h h')
  have HU2 := Lib.hid (fun W h h' => tMeet_any a b al ar av bl br bv W h h')
  have HU3 := Lib.hid (fun W h h' => tMinus_any a b al ar av bl br bv W h h')
  have HU4 := Lib.hid (fun W h => tnot_any a al ar av W h)
  have HU5 := Lib.hid (fun W h => tmove_any a n al ar av W h hn1 hn2)
  have HRA := Lib.hid ha
  have HRB := Lib.hid hb
  obtain ⟨a1, an1, e1⟩ := ha.1.form
  obtain ⟨a2, an2, e2⟩ := ha.2.1.form
  obtain ⟨a3, an3, e3⟩ := ha.2.2.form
  subst e1 e2 e3
  obtain ⟨b1, bn1, e4⟩ := hb.1.form
  obtain ⟨b2, bn2, e5⟩ := hb.2.1.form
  obtain ⟨b3, bn3, e6⟩ := hb.2.2.form
  subst e4 e5 e6
  clear ha hb
  obtain ⟨W, hWe⟩ : ∃ W, (w.alloc (.cells #[.int .i64 a.lf.1, (.slice a1 a.lf.2.length an1), .int .i64 a.rt.1, (.slice a2 a.rt.2.length an2), .int .i64 a.fr, .int .i64 a.to, (.slice a3 a.l.length an3)] 26)).alloc (.cells #[.int .i64 b.lf.1, (.slice b1 b.lf.2.length bn1), .int .i64 b.rt.1, (.slice b2 b.rt.2.length bn2), .int .i64 b.fr, .int .i64 b.to, (.slice b3 b.l.length bn3)] 26) = W := ⟨_, rfl⟩
  have hW : Below w.heap.size w W := by rw [← hWe]; exact ((Below.refl _ w).alloc (Nat.le_refl _) _).alloc (by simp) _
  have HX : Hid (Set7 W w.heap.size (.int .i64 a.lf.1) (.slice a1 a.lf.2.length an1) (.int .i64 a.rt.1) (.slice a2 a.rt.2.length an2) (.int .i64 a.fr) (.int .i64 a.to) (.slice a3 a.l.length an3) ∧ Set7 W (w.heap.size + 1) (.int .i64 b.lf.1) (.slice b1 b.lf.2.length bn1) (.int .i64 b.rt.1) (.slice b2 b.rt.2.length bn2) (.int .i64 b.fr) (.int .i64 b.to) (.slice b3 b.l.length bn3) ∧ RdSt W a (.slice a1 a.lf.2.length an1) (.slice a2 a.rt.2.length an2) (.slice a3 a.l.length an3) ∧ RdSt W b (.slice b1 b.lf.2.length bn1) (.slice b2 b.rt.2.length bn2) (.slice b3 b.l.length bn3) ∧ Below w.heap.size w W) := by
    refine ⟨?_, ?_, keepSt hW HRA.out, keepSt hW HRB.out, hW⟩
    · rw [← hWe]
      refine ⟨⟨?_, ?_, ?_, ?_, ?_, ?_, ?_⟩, ?_, ?_, ?_, ?_, ?_, ?_, ?_⟩ <;> simp [go_sem]
    · rw [← hWe]
      refine ⟨⟨?_, ?_, ?_, ?_, ?_, ?_, ?_⟩, ?_, ?_, ?_, ?_, ?_, ?_, ?_⟩ <;> simp [go_sem]
  have HE := Lib.hid hWe
  clear hWe hW
  obtain ⟨⟨⟨A0, A1, A2, A3, A4, A5, A6⟩, -⟩, ⟨⟨B0, B1, B2, B3, B4, B5, B6⟩, -⟩, -, -, hbe⟩ := HX.out
  go_enter Tryz.func13, Tryz.ntmps13
  go_wp2_with fail
  rw [HE.out]
  go_wp2_with fail
  refine (HAW.out _).mono ?_
  rintro e w1 ⟨rfl, hb⟩
  have HX1 := Lib.hid (And.intro (HX.out.1.below hb) (And.intro (HX.out.2.1.below hb) (And.intro (keepSt hb HX.out.2.2.1) (And.intro (keepSt hb HX.out.2.2.2.1) (keepBelow HX.out.2.2.2.2 hb)))))
  clear A0 A1 A2 A3 A4 A5 A6 B0 B1 B2 B3 B4 B5 B6 hbe
  obtain ⟨⟨⟨A0, A1, A2, A3, A4, A5, A6⟩, -⟩, ⟨⟨B0, B1, B2, B3, B4, B5, B6⟩, -⟩, -, -, hbe⟩ := HX1.out
  clear hb
  have HT2 := Lib.hid (rdT_two HX1.out.2.2.1 HX1.out.2.2.2.1)
  have hb := (Below.refl w1.heap.size w1).alloc (Nat.le_refl _) (.cells #[.int .i64 a.lf.1, (.slice a1 a.lf.2.length an1), .int .i64 a.rt.1, (.slice a2 a.rt.2.length an2), .int .i64 a.fr, .int .i64 a.to, (.slice a3 a.l.length an3), .int .i64 b.lf.1, (.slice b1 b.lf.2.length bn1), .int .i64 b.rt.1, (.slice b2 b.rt.2.length bn2), .int .i64 b.fr, .int .i64 b.to, (.slice b3 b.l.length bn3)] 26)
  have HX1' := Lib.hid (And.intro (HX1.out.1.below hb) (And.intro (HX1.out.2.1.below hb) (And.intro (keepSt hb HX1.out.2.2.1) (And.intro (keepSt hb HX1.out.2.2.2.1) (keepBelow HX1.out.2.2.2.2 hb)))))
  go_wp2_with fail
  refine (HLA.out _ _ _ HT2.out).mono ?_
  rintro e w2 ⟨rfl, hb⟩
  have HX2 := Lib.hid (And.intro (HX1'.out.1.below hb) (And.intro (HX1'.out.2.1.below hb) (And.intro (keepSt hb HX1'.out.2.2.1) (And.intro (keepSt hb HX1'.out.2.2.2.1) (keepBelow HX1'.out.2.2.2.2 hb)))))
  clear A0 A1 A2 A3 A4 A5 A6 B0 B1 B2 B3 B4 B5 B6 hbe
  obtain ⟨⟨⟨A0, A1, A2, A3, A4, A5, A6⟩, -⟩, ⟨⟨B0, B1, B2, B3, B4, B5, B6⟩, -⟩, -, -, hbe⟩ := HX2.out
  clear hb HT2
  obtain ⟨lg, hlg⟩ : ∃ g, anyL [(a, .slice a1 a.lf.2.length an1, .slice a2 a.rt.2.length an2, .slice a3 a.l.length an3), (b, .slice b1 b.lf.2.length bn1, .slice b2 b.rt.2.length bn2, .slice b3 b.l.length bn3)] = g := ⟨_, rfl⟩
  rw [hlg]
  clear hlg
  cases lg with
  | true =>
    go_wp2
    go_ret
    exact ⟨rfl, hbe⟩
  | false =>
  cases tx1 : decide (x < -4398046511104) with
  | true =>
    go_wp2
    go_ret
    exact ⟨rfl, hbe⟩
  | false =>
  cases tx2 : decide (4398046511104 < x) with
  | true =>
    go_wp2
    go_ret
    exact ⟨rfl, hbe⟩
  | false =>
  cases tx3 : decide (n < -4398046511104) with
  | true =>
    go_wp2
    go_ret
    exact ⟨rfl, hbe⟩
  | false =>
  cases tx4 : decide (4398046511104 < n) with
  | true =>
    go_wp2
    go_ret
    exact ⟨rfl, hbe⟩
  | false =>
  have gx1 : -4398046511104 ≤ x := by simpa using tx1
  have gx2 : x ≤ 4398046511104 := by simpa using tx2
  have gn1 : -4398046511104 ≤ n := by simpa using tx3
  have gn2 : n ≤ 4398046511104 := by simpa using tx4
  have HH1 := Lib.hid (fun W h => thas_any a (.slice a1 a.lf.2.length an1) (.slice a2 a.rt.2.length an2) (.slice a3 a.l.length an3) x W h (by omega) (by omega))
  have HH2 := Lib.hid (fun W h => thas_any b (.slice b1 b.lf.2.length bn1) (.slice b2 b.rt.2.length bn2) (.slice b3 b.l.length bn3) x W h (by omega) (by omega))
  obtain ⟨p, hp⟩ : ∃ p, (VB a && hasS a x) = p := ⟨_, rfl⟩
  obtain ⟨q, hq⟩ : ∃ q, (VB b && hasS b x) = q := ⟨_, rfl⟩
  rw [hp] at HH1
  rw [hq] at HH2
  have HPQ := Lib.hid (And.intro hp hq)
  clear hp hq
  obtain ⟨⟨T1, E1⟩, hT1⟩ : ∃ r, combM 0 a b = r := ⟨_, rfl⟩
  rw [hT1] at HU1
  have KT1 : Hid (E1 = 0 → ∀ vl vr vv W, RdSt W T1 vl vr vv → Calls Tryz.prog 21 #[.agg #[.int .i64 T1.lf.1, vl, .int .i64 T1.rt.1, vr, .int .i64 T1.fr, .int .i64 T1.to, vv], .int .i64 (x)] W fun e w' => e = .returned (.bool (p || q)) ∧ Below W.heap.size W w') := fun he vl vr vv W h => by
    obtain ⟨u1, u2, u3, u4⟩ := comb_has (k := 0) (a := a) (b := b) (c := T1) (by rw [hT1, he])
    have e1 : hasS a x = p := by have := HPQ.out.1; rwa [u1, Bool.true_and] at this
    have e2 : hasS b x = q := by have := HPQ.out.2; rwa [u2, Bool.true_and] at this
    have := thas_any T1 vl vr vv (x) W h (by omega) (by omega)
    rw [u3, u4, e1, e2] at this
    exact this
  clear hT1
  obtain ⟨⟨T2, E2⟩, hT2⟩ : ∃ r, combM 1 a b = r := ⟨_, rfl⟩
  rw [hT2] at HU2
  have KT2 : Hid (E2 = 0 → ∀ vl vr vv W, RdSt W T2 vl vr vv → Calls Tryz.prog 21 #[.agg #[.int .i64 T2.lf.1, vl, .int .i64 T2.rt.1, vr, .int .i64 T2.fr, .int .i64 T2.to, vv], .int .i64 (x)] W fun e w' => e = .returned (.bool (p && q)) ∧ Below W.heap.size W w') := fun he vl vr vv W h => by
    obtain ⟨u1, u2, u3, u4⟩ := comb_has (k := 1) (a := a) (b := b) (c := T2) (by rw [hT2, he])
    have e1 : hasS a x = p := by have := HPQ.out.1; rwa [u1, Bool.true_and] at this
    have e2 : hasS b x = q := by have := HPQ.out.2; rwa [u2, Bool.true_and] at this
    have := thas_any T2 vl vr vv (x) W h (by omega) (by omega)
    rw [u3, u4, e1, e2] at this
    exact this
  clear hT2
  obtain ⟨⟨T3, E3⟩, hT3⟩ : ∃ r, combM 2 a b = r := ⟨_, rfl⟩
  rw [hT3] at HU3
  have KT3 : Hid (E3 = 0 → ∀ vl vr vv W, RdSt W T3 vl vr vv → Calls Tryz.prog 21 #[.agg #[.int .i64 T3.lf.1, vl, .int .i64 T3.rt.1, vr, .int .i64 T3.fr, .int .i64 T3.to, vv], .int .i64 (x)] W fun e w' => e = .returned (.bool (p && !q)) ∧ Below W.heap.size W w') := fun he vl vr vv W h => by
    obtain ⟨u1, u2, u3, u4⟩ := comb_has (k := 2) (a := a) (b := b) (c := T3) (by rw [hT3, he])
    have e1 : hasS a x = p := by have := HPQ.out.1; rwa [u1, Bool.true_and] at this
    have e2 : hasS b x = q := by have := HPQ.out.2; rwa [u2, Bool.true_and] at this
    have := thas_any T3 vl vr vv (x) W h (by omega) (by omega)
    rw [u3, u4, e1, e2] at this
    exact this
  clear hT3
  obtain ⟨⟨T4, E4⟩, hT4⟩ : ∃ r, setNot a = r := ⟨_, rfl⟩
  rw [hT4] at HU4
  have KT4 : Hid (E4 = 0 → ∀ vl vr vv W, RdSt W T4 vl vr vv → Calls Tryz.prog 21 #[.agg #[.int .i64 T4.lf.1, vl, .int .i64 T4.rt.1, vr, .int .i64 T4.fr, .int .i64 T4.to, vv], .int .i64 (x)] W fun e w' => e = .returned (.bool (!p)) ∧ Below W.heap.size W w') := fun he vl vr vv W h => by
    obtain ⟨u1, _, u4⟩ := not_has (a := a) (c := T4) (by rw [hT4, he])
    have u3 := not_VB (a := a) (c := T4) (by rw [hT4, he])
    have e1 : hasS a x = p := by have := HPQ.out.1; rwa [u1, Bool.true_and] at this
    have := thas_any T4 vl vr vv (x) W h (by omega) (by omega)
    rw [u3, u4, e1] at this
    exact this
  clear hT4
  obtain ⟨⟨T5, E5⟩, hT5⟩ : ∃ r, setMove n a = r := ⟨_, rfl⟩
  rw [hT5] at HU5
  have KT5 : Hid (E5 = 0 → ∀ vl vr vv W, RdSt W T5 vl vr vv → Calls Tryz.prog 21 #[.agg #[.int .i64 T5.lf.1, vl, .int .i64 T5.rt.1, vr, .int .i64 T5.fr, .int .i64 T5.to, vv], .int .i64 (x + n)] W fun e w' => e = .returned (.bool (p)) ∧ Below W.heap.size W w') := fun he vl vr vv W h => by
    obtain ⟨u1, _, u4, _⟩ := move_has (a := a) (c := T5) (n := n) (by rw [hT5, he])
    have u3 := move_VB (a := a) (c := T5) (n := n) (by rw [hT5, he])
    have e1 : hasS a x = p := by have := HPQ.out.1; rwa [u1, Bool.true_and] at this
    have := thas_any T5 vl vr vv (x + n) W h (by omega) (by omega)
    rw [u3, u4, show x + n - n = x by omega, e1] at this
    exact this
  clear hT5
  have s1 : IntKind.i64.wrap (x + n) = x + n := by rw [IntKind.wrap_i64]; omega
  go_upto_region 5 with fail
  go_cut [9, 10] from 43 to 48 (fun u y wx => u = .bool p ∧ y = .bool q ∧ Below w2.heap.size w2 wx)
  case first =>
    have e0 := ext_cell A0
    have e1 := ext_cell A1
    have e2 := ext_cell A2
    have e3 := ext_cell A3
    have e4 := ext_cell A4
    have e5 := ext_cell A5
    have e6 := ext_cell A6
    have f0 := ext_cell B0
    have f1 := ext_cell B1
    have f2 := ext_cell B2
    have f3 := ext_cell B3
    have f4 := ext_cell B4
    have f5 := ext_cell B5
    have f6 := ext_cell B6
    have HRE : Hid (∀ X : Ext w2, RdSt (extOf w2 X) a (.slice a1 a.lf.2.length an1) (.slice a2 a.rt.2.length an2) (.slice a3 a.l.length an3) ∧ RdSt (extOf w2 X) b (.slice b1 b.lf.2.length bn1) (.slice b2 b.rt.2.length bn2) (.slice b3 b.l.length bn3)) := fun X => ⟨⟨ext_rd HX2.out.2.2.1.1 X, ext_rd HX2.out.2.2.1.2.1 X, ext_rd HX2.out.2.2.1.2.2 X⟩, ⟨ext_rd HX2.out.2.2.2.1.1 X, ext_rd HX2.out.2.2.2.1.2.1 X, ext_rd HX2.out.2.2.2.1.2.2 X⟩⟩
    go_wp2_with fail
    refine wp_region_ext (by kernel_rfl) (by kernel_rfl) ?_
    iterate 8 (go_big_quiet_step ((first | (go_at_call_of 21 (Value.agg #[Value.int IntKind.i64 a.lf.1, (Value.slice a1 a.lf.2.length an1), Value.int IntKind.i64 a.rt.1, (Value.slice a2 a.rt.2.length an2), Value.int IntKind.i64 a.fr, Value.int IntKind.i64 a.to, (Value.slice a3 a.l.length an3)]); refine calls_ext (HH1.out _ (HRE.out _).1)) | (go_at_call_of 21 (Value.agg #[Value.int IntKind.i64 b.lf.1, (Value.slice b1 b.lf.2.length bn1), Value.int IntKind.i64 b.rt.1, (Value.slice b2 b.rt.2.length bn2), Value.int IntKind.i64 b.fr, Value.int IntKind.i64 b.to, (Value.slice b3 b.l.length bn3)]); refine calls_ext (HH2.out _ (HRE.out _).2)))))
    refine wpQuiet_nil ?_
    intro w9 hb9
    go_wp2_with fail
    go_meet
    case rel => exact ⟨rfl, rfl, hb9⟩
  case rest =>
  obtain ⟨rfl, rfl, hb⟩ := hcut
  have HX3 := Lib.hid (And.intro (HX2.out.1.below hb) (And.intro (HX2.out.2.1.below hb) (And.intro (keepSt hb HX2.out.2.2.1) (And.intro (keepSt hb HX2.out.2.2.2.1) (keepBelow HX2.out.2.2.2.2 hb)))))
  clear A0 A1 A2 A3 A4 A5 A6 B0 B1 B2 B3 B4 B5 B6 hbe
  obtain ⟨⟨⟨A0, A1, A2, A3, A4, A5, A6⟩, -⟩, ⟨⟨B0, B1, B2, B3, B4, B5, B6⟩, -⟩, -, -, hbe⟩ := HX3.out
  clear hb
  go_wp2_with fail
  refine (HU1.out _ HX3.out.2.2.1 HX3.out.2.2.2.1).mono ?_
  rintro e w3 hpost
  obtain ⟨vl, vr, vv, rfl, hr, hb⟩ : ∃ vl vr vv, e = .returned (.tuple #[.agg #[.int .i64 T1.lf.1, vl, .int .i64 T1.rt.1, vr, .int .i64 T1.fr, .int .i64 T1.to, vv], .int .i64 E1]) ∧ RdSt w3 T1 vl vr vv ∧ Below _ _ w3 := hpost
  obtain ⟨c1, cm1, rfl⟩ := hr.1.form
  obtain ⟨c2, cm2, rfl⟩ := hr.2.1.form
  obtain ⟨c3, cm3, rfl⟩ := hr.2.2.form
  have HY3 := Lib.hid (And.intro (HX3.out.1.below hb) (And.intro (HX3.out.2.1.below hb) (And.intro (keepSt hb HX3.out.2.2.1) (And.intro (keepSt hb HX3.out.2.2.2.1) (keepBelow HX3.out.2.2.2.2 hb)))))
  clear A0 A1 A2 A3 A4 A5 A6 B0 B1 B2 B3 B4 B5 B6 hbe
  clear hb
  have hb := (Below.refl w3.heap.size w3).alloc (Nat.le_refl _) (.cells #[.int .i64 T1.lf.1, .slice c1 T1.lf.2.length cm1, .int .i64 T1.rt.1, .slice c2 T1.rt.2.length cm2, .int .i64 T1.fr, .int .i64 T1.to, .slice c3 T1.l.length cm3] 26)
  have HZ3 := Lib.hid (And.intro (HY3.out.1.below hb) (And.intro (HY3.out.2.1.below hb) (And.intro (keepSt hb HY3.out.2.2.1) (And.intro (keepSt hb HY3.out.2.2.2.1) (keepBelow HY3.out.2.2.2.2 hb)))))
  have HN3 := Lib.hid (And.intro (set7_new w3 (.int .i64 T1.lf.1) (.slice c1 T1.lf.2.length cm1) (.int .i64 T1.rt.1) (.slice c2 T1.rt.2.length cm2) (.int .i64 T1.fr) (.int .i64 T1.to) (.slice c3 T1.l.length cm3)) (keepSt hb hr))
  have HK3 := Lib.hid (And.intro HZ3.out.1 (And.intro HZ3.out.2.1 (And.intro HZ3.out.2.2.1 (And.intro HZ3.out.2.2.2.1 (And.intro HN3.out.1 (And.intro HN3.out.2 HZ3.out.2.2.2.2))))))
  clear hb hr HY3 HZ3 HN3
  obtain ⟨⟨⟨A0, A1, A2, A3, A4, A5, A6⟩, -⟩, ⟨⟨B0, B1, B2, B3, B4, B5, B6⟩, -⟩, -, -, -, -, hbe⟩ := HK3.out
  go_wp2_with fail
  refine (HU2.out _ HK3.out.2.2.1 HK3.out.2.2.2.1).mono ?_
  rintro e w4 hpost
  obtain ⟨vl, vr, vv, rfl, hr, hb⟩ : ∃ vl vr vv, e = .returned (.tuple #[.agg #[.int .i64 T2.lf.1, vl, .int .i64 T2.rt.1, vr, .int .i64 T2.fr, .int .i64 T2.to, vv], .int .i64 E2]) ∧ RdSt w4 T2 vl vr vv ∧ Below _ _ w4 := hpost
  obtain ⟨d1, dm1, rfl⟩ := hr.1.form
  obtain ⟨d2, dm2, rfl⟩ := hr.2.1.form
  obtain ⟨d3, dm3, rfl⟩ := hr.2.2.form
  have HY4 := Lib.hid (And.intro (HK3.out.1.below hb) (And.intro (HK3.out.2.1.below hb) (And.intro (keepSt hb HK3.out.2.2.1) (And.intro (keepSt hb HK3.out.2.2.2.1) (And.intro (HK3.out.2.2.2.2.1.below hb) (And.intro (keepSt hb HK3.out.2.2.2.2.2.1) (keepBelow HK3.out.2.2.2.2.2.2 hb)))))))
  clear A0 A1 A2 A3 A4 A5 A6 B0 B1 B2 B3 B4 B5 B6 hbe
  clear hb
  have hb := (Below.refl w4.heap.size w4).alloc (Nat.le_refl _) (.cells #[.int .i64 T2.lf.1, .slice d1 T2.lf.2.length dm1, .int .i64 T2.rt.1, .slice d2 T2.rt.2.length dm2, .int .i64 T2.fr, .int .i64 T2.to, .slice d3 T2.l.length dm3] 26)
  have HZ4 := Lib.hid (And.intro (HY4.out.1.below hb) (And.intro (HY4.out.2.1.below hb) (And.intro (keepSt hb HY4.out.2.2.1) (And.intro (keepSt hb HY4.out.2.2.2.1) (And.intro (HY4.out.2.2.2.2.1.below hb) (And.intro (keepSt hb HY4.out.2.2.2.2.2.1) (keepBelow HY4.out.2.2.2.2.2.2 hb)))))))
  have HN4 := Lib.hid (And.intro (set7_new w4 (.int .i64 T2.lf.1) (.slice d1 T2.lf.2.length dm1) (.int .i64 T2.rt.1) (.slice d2 T2.rt.2.length dm2) (.int .i64 T2.fr) (.int .i64 T2.to) (.slice d3 T2.l.length dm3)) (keepSt hb hr))
  have HK4 := Lib.hid (And.intro HZ4.out.1 (And.intro HZ4.out.2.1 (And.intro HZ4.out.2.2.1 (And.intro HZ4.out.2.2.2.1 (And.intro HZ4.out.2.2.2.2.1 (And.intro HZ4.out.2.2.2.2.2.1 (And.intro HN4.out.1 (And.intro HN4.out.2 HZ4.out.2.2.2.2.2.2))))))))
  clear hb hr HY4 HZ4 HN4
  obtain ⟨⟨⟨A0, A1, A2, A3, A4, A5, A6⟩, -⟩, ⟨⟨B0, B1, B2, B3, B4, B5, B6⟩, -⟩, -, -, -, -, -, -, hbe⟩ := HK4.out
  go_wp2_with fail
  refine (HU3.out _ HK4.out.2.2.1 HK4.out.2.2.2.1).mono ?_
  rintro e w5 hpost
  obtain ⟨vl, vr, vv, rfl, hr, hb⟩ : ∃ vl vr vv, e = .returned (.tuple #[.agg #[.int .i64 T3.lf.1, vl, .int .i64 T3.rt.1, vr, .int .i64 T3.fr, .int .i64 T3.to, vv], .int .i64 E3]) ∧ RdSt w5 T3 vl vr vv ∧ Below _ _ w5 := hpost
  obtain ⟨f1, fm1, rfl⟩ := hr.1.form
  obtain ⟨f2, fm2, rfl⟩ := hr.2.1.form
  obtain ⟨f3, fm3, rfl⟩ := hr.2.2.form
  have HY5 := Lib.hid (And.intro (HK4.out.1.below hb) (And.intro (HK4.out.2.1.below hb) (And.intro (keepSt hb HK4.out.2.2.1) (And.intro (keepSt hb HK4.out.2.2.2.1) (And.intro (HK4.out.2.2.2.2.1.below hb) (And.intro (keepSt hb HK4.out.2.2.2.2.2.1) (And.intro (HK4.out.2.2.2.2.2.2.1.below hb) (And.intro (keepSt hb HK4.out.2.2.2.2.2.2.2.1) (keepBelow HK4.out.2.2.2.2.2.2.2.2 hb)))))))))
  clear A0 A1 A2 A3 A4 A5 A6 B0 B1 B2 B3 B4 B5 B6 hbe
  clear hb
  have hb := (Below.refl w5.heap.size w5).alloc (Nat.le_refl _) (.cells #[.int .i64 T3.lf.1, .slice f1 T3.lf.2.length fm1, .int .i64 T3.rt.1, .slice f2 T3.rt.2.length fm2, .int .i64 T3.fr, .int .i64 T3.to, .slice f3 T3.l.length fm3] 26)
  have HZ5 := Lib.hid (And.intro (HY5.out.1.below hb) (And.intro (HY5.out.2.1.below hb) (And.intro (keepSt hb HY5.out.2.2.1) (And.intro (keepSt hb HY5.out.2.2.2.1) (And.intro (HY5.out.2.2.2.2.1.below hb) (And.intro (keepSt hb HY5.out.2.2.2.2.2.1) (And.intro (HY5.out.2.2.2.2.2.2.1.below hb) (And.intro (keepSt hb HY5.out.2.2.2.2.2.2.2.1) (keepBelow HY5.out.2.2.2.2.2.2.2.2 hb)))))))))
  have HN5 := Lib.hid (And.intro (set7_new w5 (.int .i64 T3.lf.1) (.slice f1 T3.lf.2.length fm1) (.int .i64 T3.rt.1) (.slice f2 T3.rt.2.length fm2) (.int .i64 T3.fr) (.int .i64 T3.to) (.slice f3 T3.l.length fm3)) (keepSt hb hr))
  have HK5 := Lib.hid (And.intro HZ5.out.1 (And.intro HZ5.out.2.1 (And.intro HZ5.out.2.2.1 (And.intro HZ5.out.2.2.2.1 (And.intro HZ5.out.2.2.2.2.1 (And.intro HZ5.out.2.2.2.2.2.1 (And.intro HZ5.out.2.2.2.2.2.2.1 (And.intro HZ5.out.2.2.2.2.2.2.2.1 (And.intro HN5.out.1 (And.intro HN5.out.2 HZ5.out.2.2.2.2.2.2.2.2))))))))))
  clear hb hr HY5 HZ5 HN5
  obtain ⟨⟨⟨A0, A1, A2, A3, A4, A5, A6⟩, -⟩, ⟨⟨B0, B1, B2, B3, B4, B5, B6⟩, -⟩, -, -, -, -, -, -, -, -, hbe⟩ := HK5.out
  go_wp2_with fail
  refine (HU4.out _ HK5.out.2.2.1).mono ?_
  rintro e w6 hpost
  obtain ⟨vl, vr, vv, rfl, hr, hb⟩ : ∃ vl vr vv, e = .returned (.tuple #[.agg #[.int .i64 T4.lf.1, vl, .int .i64 T4.rt.1, vr, .int .i64 T4.fr, .int .i64 T4.to, vv], .int .i64 E4]) ∧ RdSt w6 T4 vl vr vv ∧ Below _ _ w6 := hpost
  obtain ⟨g1, gm1, rfl⟩ := hr.1.form
  obtain ⟨g2, gm2, rfl⟩ := hr.2.1.form
  obtain ⟨g3, gm3, rfl⟩ := hr.2.2.form
  have HY6 := Lib.hid (And.intro (HK5.out.1.below hb) (And.intro (HK5.out.2.1.below hb) (And.intro (keepSt hb HK5.out.2.2.1) (And.intro (keepSt hb HK5.out.2.2.2.1) (And.intro (HK5.out.2.2.2.2.1.below hb) (And.intro (keepSt hb HK5.out.2.2.2.2.2.1) (And.intro (HK5.out.2.2.2.2.2.2.1.below hb) (And.intro (keepSt hb HK5.out.2.2.2.2.2.2.2.1) (And.intro (HK5.out.2.2.2.2.2.2.2.2.1.below hb) (And.intro (keepSt hb HK5.out.2.2.2.2.2.2.2.2.2.1) (keepBelow HK5.out.2.2.2.2.2.2.2.2.2.2 hb)))))))))))
  clear A0 A1 A2 A3 A4 A5 A6 B0 B1 B2 B3 B4 B5 B6 hbe
  clear hb
  have hb := (Below.refl w6.heap.size w6).alloc (Nat.le_refl _) (.cells #[.int .i64 T4.lf.1, .slice g1 T4.lf.2.length gm1, .int .i64 T4.rt.1, .slice g2 T4.rt.2.length gm2, .int .i64 T4.fr, .int .i64 T4.to, .slice g3 T4.l.length gm3] 26)
  have HZ6 := Lib.hid (And.intro (HY6.out.1.below hb) (And.intro (HY6.out.2.1.below hb) (And.intro (keepSt hb HY6.out.2.2.1) (And.intro (keepSt hb HY6.out.2.2.2.1) (And.intro (HY6.out.2.2.2.2.1.below hb) (And.intro (keepSt hb HY6.out.2.2.2.2.2.1) (And.intro (HY6.out.2.2.2.2.2.2.1.below hb) (And.intro (keepSt hb HY6.out.2.2.2.2.2.2.2.1) (And.intro (HY6.out.2.2.2.2.2.2.2.2.1.below hb) (And.intro (keepSt hb HY6.out.2.2.2.2.2.2.2.2.2.1) (keepBelow HY6.out.2.2.2.2.2.2.2.2.2.2 hb)))))))))))
  have HN6 := Lib.hid (And.intro (set7_new w6 (.int .i64 T4.lf.1) (.slice g1 T4.lf.2.length gm1) (.int .i64 T4.rt.1) (.slice g2 T4.rt.2.length gm2) (.int .i64 T4.fr) (.int .i64 T4.to) (.slice g3 T4.l.length gm3)) (keepSt hb hr))
  have HK6 := Lib.hid (And.intro HZ6.out.1 (And.intro HZ6.out.2.1 (And.intro HZ6.out.2.2.1 (And.intro HZ6.out.2.2.2.1 (And.intro HZ6.out.2.2.2.2.1 (And.intro HZ6.out.2.2.2.2.2.1 (And.intro HZ6.out.2.2.2.2.2.2.1 (And.intro HZ6.out.2.2.2.2.2.2.2.1 (And.intro HZ6.out.2.2.2.2.2.2.2.2.1 (And.intro HZ6.out.2.2.2.2.2.2.2.2.2.1 (And.intro HN6.out.1 (And.intro HN6.out.2 HZ6.out.2.2.2.2.2.2.2.2.2.2))))))))))))
  clear hb hr HY6 HZ6 HN6
  obtain ⟨⟨⟨A0, A1, A2, A3, A4, A5, A6⟩, -⟩, ⟨⟨B0, B1, B2, B3, B4, B5, B6⟩, -⟩, -, -, -, -, -, -, -, -, -, -, hbe⟩ := HK6.out
  go_wp2_with fail
  refine (HU5.out _ HK6.out.2.2.1).mono ?_
  rintro e w7 hpost
  obtain ⟨vl, vr, vv, rfl, hr, hb⟩ : ∃ vl vr vv, e = .returned (.tuple #[.agg #[.int .i64 T5.lf.1, vl, .int .i64 T5.rt.1, vr, .int .i64 T5.fr, .int .i64 T5.to, vv], .int .i64 E5]) ∧ RdSt w7 T5 vl vr vv ∧ Below _ _ w7 := hpost
  obtain ⟨i1, im1, rfl⟩ := hr.1.form
  obtain ⟨i2, im2, rfl⟩ := hr.2.1.form
  obtain ⟨i3, im3, rfl⟩ := hr.2.2.form
  have HY7 := Lib.hid (And.intro (HK6.out.1.below hb) (And.intro (HK6.out.2.1.below hb) (And.intro (keepSt hb HK6.out.2.2.1) (And.intro (keepSt hb HK6.out.2.2.2.1) (And.intro (HK6.out.2.2.2.2.1.below hb) (And.intro (keepSt hb HK6.out.2.2.2.2.2.1) (And.intro (HK6.out.2.2.2.2.2.2.1.below hb) (And.intro (keepSt hb HK6.out.2.2.2.2.2.2.2.1) (And.intro (HK6.out.2.2.2.2.2.2.2.2.1.below hb) (And.intro (keepSt hb HK6.out.2.2.2.2.2.2.2.2.2.1) (And.intro (HK6.out.2.2.2.2.2.2.2.2.2.2.1.below hb) (And.intro (keepSt hb HK6.out.2.2.2.2.2.2.2.2.2.2.2.1) (keepBelow HK6.out.2.2.2.2.2.2.2.2.2.2.2.2 hb)))))))))))))
  clear A0 A1 A2 A3 A4 A5 A6 B0 B1 B2 B3 B4 B5 B6 hbe
  clear hb
  have hb := (Below.refl w7.heap.size w7).alloc (Nat.le_refl _) (.cells #[.int .i64 T5.lf.1, .slice i1 T5.lf.2.length im1, .int .i64 T5.rt.1, .slice i2 T5.rt.2.length im2, .int .i64 T5.fr, .int .i64 T5.to, .slice i3 T5.l.length im3] 26)
  have HZ7 := Lib.hid (And.intro (HY7.out.1.below hb) (And.intro (HY7.out.2.1.below hb) (And.intro (keepSt hb HY7.out.2.2.1) (And.intro (keepSt hb HY7.out.2.2.2.1) (And.intro (HY7.out.2.2.2.2.1.below hb) (And.intro (keepSt hb HY7.out.2.2.2.2.2.1) (And.intro (HY7.out.2.2.2.2.2.2.1.below hb) (And.intro (keepSt hb HY7.out.2.2.2.2.2.2.2.1) (And.intro (HY7.out.2.2.2.2.2.2.2.2.1.below hb) (And.intro (keepSt hb HY7.out.2.2.2.2.2.2.2.2.2.1) (And.intro (HY7.out.2.2.2.2.2.2.2.2.2.2.1.below hb) (And.intro (keepSt hb HY7.out.2.2.2.2.2.2.2.2.2.2.2.1) (keepBelow HY7.out.2.2.2.2.2.2.2.2.2.2.2.2 hb)))))))))))))
  have HN7 := Lib.hid (And.intro (set7_new w7 (.int .i64 T5.lf.1) (.slice i1 T5.lf.2.length im1) (.int .i64 T5.rt.1) (.slice i2 T5.rt.2.length im2) (.int .i64 T5.fr) (.int .i64 T5.to) (.slice i3 T5.l.length im3)) (keepSt hb hr))
  have HK7 := Lib.hid (And.intro HZ7.out.1 (And.intro HZ7.out.2.1 (And.intro HZ7.out.2.2.1 (And.intro HZ7.out.2.2.2.1 (And.intro HZ7.out.2.2.2.2.1 (And.intro HZ7.out.2.2.2.2.2.1 (And.intro HZ7.out.2.2.2.2.2.2.1 (And.intro HZ7.out.2.2.2.2.2.2.2.1 (And.intro HZ7.out.2.2.2.2.2.2.2.2.1 (And.intro HZ7.out.2.2.2.2.2.2.2.2.2.1 (And.intro HZ7.out.2.2.2.2.2.2.2.2.2.2.1 (And.intro HZ7.out.2.2.2.2.2.2.2.2.2.2.2.1 (And.intro HN7.out.1 (And.intro HN7.out.2 HZ7.out.2.2.2.2.2.2.2.2.2.2.2.2))))))))))))))
  clear hb hr HY7 HZ7 HN7
  obtain ⟨⟨⟨A0, A1, A2, A3, A4, A5, A6⟩, -⟩, ⟨⟨B0, B1, B2, B3, B4, B5, B6⟩, -⟩, -, -, -, -, -, -, -, -, -, -, -, -, hbe⟩ := HK7.out
  have HS0 := Lib.hid (And.intro HK7.out.2.2.2.2.1 (And.intro HK7.out.2.2.2.2.2.1 (And.intro HK7.out.2.2.2.2.2.2.1 (And.intro HK7.out.2.2.2.2.2.2.2.1 (And.intro HK7.out.2.2.2.2.2.2.2.2.1 (And.intro HK7.out.2.2.2.2.2.2.2.2.2.1 (And.intro HK7.out.2.2.2.2.2.2.2.2.2.2.1 (And.intro HK7.out.2.2.2.2.2.2.2.2.2.2.2.1 (And.intro HK7.out.2.2.2.2.2.2.2.2.2.2.2.2.1 (And.intro HK7.out.2.2.2.2.2.2.2.2.2.2.2.2.2.1 HK7.out.2.2.2.2.2.2.2.2.2.2.2.2.2.2))))))))))
  clear A0 A1 A2 A3 A4 A5 A6 B0 B1 B2 B3 B4 B5 B6 hbe
  obtain ⟨⟨⟨C0, C1, C2, C3, C4, C5, C6⟩, -⟩, -, -, -, -, -, -, -, -, -, hbe⟩ := HS0.out
  clear HK7 HX1 HX1' HX2 HX3 HPQ HRA HRB HH1 HH2 HU1 HU2 HU3 HU4 HU5 HAW HLA HK3 HK4 HK5 HK6 HX HE hb hx1 hx2 hn1 hn2 tx1 tx2 tx3 tx4 gx1 gx2 gn1 gn2
  go_upto_region 11 with fail
  generalize Value.agg #[Value.int IntKind.i64 a.lf.1, (Value.slice a1 a.lf.2.length an1), Value.int IntKind.i64 a.rt.1, (Value.slice a2 a.rt.2.length an2), Value.int IntKind.i64 a.fr, Value.int IntKind.i64 a.to, (Value.slice a3 a.l.length an3)] = junk
  generalize Value.agg #[Value.int IntKind.i64 b.lf.1, (Value.slice b1 b.lf.2.length bn1), Value.int IntKind.i64 b.rt.1, (Value.slice b2 b.rt.2.length bn2), Value.int IntKind.i64 b.fr, Value.int IntKind.i64 b.to, (Value.slice b3 b.l.length bn3)] = junk
  generalize Value.agg #[Value.int IntKind.i64 T1.lf.1, Value.slice c1 T1.lf.2.length cm1, Value.int IntKind.i64 T1.rt.1, Value.slice c2 T1.rt.2.length cm2, Value.int IntKind.i64 T1.fr, Value.int IntKind.i64 T1.to, Value.slice c3 T1.l.length cm3] = junk
  generalize Value.agg #[Value.int IntKind.i64 T2.lf.1, Value.slice d1 T2.lf.2.length dm1, Value.int IntKind.i64 T2.rt.1, Value.slice d2 T2.rt.2.length dm2, Value.int IntKind.i64 T2.fr, Value.int IntKind.i64 T2.to, Value.slice d3 T2.l.length dm3] = junk
  generalize Value.agg #[Value.int IntKind.i64 T3.lf.1, Value.slice f1 T3.lf.2.length fm1, Value.int IntKind.i64 T3.rt.1, Value.slice f2 T3.rt.2.length fm2, Value.int IntKind.i64 T3.fr, Value.int IntKind.i64 T3.to, Value.slice f3 T3.l.length fm3] = junk
  generalize Value.agg #[Value.int IntKind.i64 T4.lf.1, Value.slice g1 T4.lf.2.length gm1, Value.int IntKind.i64 T4.rt.1, Value.slice g2 T4.rt.2.length gm2, Value.int IntKind.i64 T4.fr, Value.int IntKind.i64 T4.to, Value.slice g3 T4.l.length gm3] = junk
  generalize Value.agg #[Value.int IntKind.i64 T5.lf.1, Value.slice i1 T5.lf.2.length im1, Value.int IntKind.i64 T5.rt.1, Value.slice i2 T5.rt.2.length im2, Value.int IntKind.i64 T5.fr, Value.int IntKind.i64 T5.to, Value.slice i3 T5.l.length im3] = junk
  refine wp_region_lit ?_
  simp only [List.append]
  cases p with
  | true =>
    obtain ⟨K0, HKi, HKe⟩ : ∃ K : Act → World → Prop, Hid (∀ (u0 u1 u12 u21 u22 u23 u24 u25 u26 u27 u28 u29 u30 u31 u32 u33 u34 u35 u36 u37 u38 u39 u40 u41 u42 u43 u44 u45 u46 u47 u48 u49 u50 u51 u52 u53 u54 u55 u56 u57 u58 u59 u60 u61 u62 u63 u64 u65 u66 u67 u68 u69 u70 u71 u72 u73 u74 u75 u76 u77 u78 u79 u80 u81 u82 u83 u84 u85 u86 u87 u88 u89 : Value) (w' : World), (Set7 w' w4.heap.size (.int .i64 T2.lf.1) (.slice d1 T2.lf.2.length dm1) (.int .i64 T2.rt.1) (.slice d2 T2.rt.2.length dm2) (.int .i64 T2.fr) (.int .i64 T2.to) (.slice d3 T2.l.length dm3) ∧ RdSt w' T2 (.slice d1 T2.lf.2.length dm1) (.slice d2 T2.rt.2.length dm2) (.slice d3 T2.l.length dm3) ∧ Set7 w' w5.heap.size (.int .i64 T3.lf.1) (.slice f1 T3.lf.2.length fm1) (.int .i64 T3.rt.1) (.slice f2 T3.rt.2.length fm2) (.int .i64 T3.fr) (.int .i64 T3.to) (.slice f3 T3.l.length fm3) ∧ RdSt w' T3 (.slice f1 T3.lf.2.length fm1) (.slice f2 T3.rt.2.length fm2) (.slice f3 T3.l.length fm3) ∧ Set7 w' w6.heap.size (.int .i64 T4.lf.1) (.slice g1 T4.lf.2.length gm1) (.int .i64 T4.rt.1) (.slice g2 T4.rt.2.length gm2) (.int .i64 T4.fr) (.int .i64 T4.to) (.slice g3 T4.l.length gm3) ∧ RdSt w' T4 (.slice g1 T4.lf.2.length gm1) (.slice g2 T4.rt.2.length gm2) (.slice g3 T4.l.length gm3) ∧ Set7 w' w7.heap.size (.int .i64 T5.lf.1) (.slice i1 T5.lf.2.length im1) (.int .i64 T5.rt.1) (.slice i2 T5.rt.2.length im2) (.int .i64 T5.fr) (.int .i64 T5.to) (.slice i3 T5.l.length im3) ∧ RdSt w' T5 (.slice i1 T5.lf.2.length im1) (.slice i2 T5.rt.2.length im2) (.slice i3 T5.l.length im3) ∧ Below w.heap.size w w') → K ⟨#[u0, u1, .int .i64 x, .int .i64 n, .pointer (some ⟨w.heap.size, 0, none⟩), .pointer (some ⟨w.heap.size + 1, 0, none⟩), undef, undef, .bool false, .bool true, .bool q, .pointer (some ⟨w3.heap.size, 0, none⟩), u12, .pointer (some ⟨w4.heap.size, 0, none⟩), .int .i64 E2, .pointer (some ⟨w5.heap.size, 0, none⟩), .int .i64 E3, .pointer (some ⟨w6.heap.size, 0, none⟩), .int .i64 E4, .pointer (some ⟨w7.heap.size, 0, none⟩), .int .i64 E5, u21, u22, u23, u24, u25, u26, u27, u28, u29, u30, u31, u32, u33, u34, u35, u36, u37, u38, u39, u40, u41, u42, u43, u44, u45, u46, u47, u48, u49, u50, u51, u52, u53, u54, u55, u56, u57, u58, u59, u60, u61, u62, u63, u64, u65, u66, u67, u68, u69, u70, u71, u72, u73, u74, u75, u76, u77, u78, u79, u80, u81, u82, u83, u84, u85, u86, u87, u88, u89, .bool true, undef, undef, undef, undef, undef, undef, undef, undef, undef, undef, undef, undef, undef, undef, undef, undef, undef, undef, undef, undef, undef, undef, undef, undef, undef, undef, undef, undef, undef, undef, undef, undef, undef, undef, undef, undef, undef, undef, undef, undef, undef, undef, undef, undef, undef, undef, undef, undef, undef, undef, undef, undef, undef], []⟩ w') ∧ Hid (∀ a' w', K a' w' → ∀ R : Act → World → Prop, (∀ (u0 u1 u12 u21 u22 u23 u24 u25 u26 u27 u28 u29 u30 u31 u32 u33 u34 u35 u36 u37 u38 u39 u40 u41 u42 u43 u44 u45 u46 u47 u48 u49 u50 u51 u52 u53 u54 u55 u56 u57 u58 u59 u60 u61 u62 u63 u64 u65 u66 u67 u68 u69 u70 u71 u72 u73 u74 u75 u76 u77 u78 u79 u80 u81 u82 u83 u84 u85 u86 u87 u88 u89 : Value) (w' : World), (Set7 w' w4.heap.size (.int .i64 T2.lf.1) (.slice d1 T2.lf.2.length dm1) (.int .i64 T2.rt.1) (.slice d2 T2.rt.2.length dm2) (.int .i64 T2.fr) (.int .i64 T2.to) (.slice d3 T2.l.length dm3) ∧ RdSt w' T2 (.slice d1 T2.lf.2.length dm1) (.slice d2 T2.rt.2.length dm2) (.slice d3 T2.l.length dm3) ∧ Set7 w' w5.heap.size (.int .i64 T3.lf.1) (.slice f1 T3.lf.2.length fm1) (.int .i64 T3.rt.1) (.slice f2 T3.rt.2.length fm2) (.int .i64 T3.fr) (.int .i64 T3.to) (.slice f3 T3.l.length fm3) ∧ RdSt w' T3 (.slice f1 T3.lf.2.length fm1) (.slice f2 T3.rt.2.length fm2) (.slice f3 T3.l.length fm3) ∧ Set7 w' w6.heap.size (.int .i64 T4.lf.1) (.slice g1 T4.lf.2.length gm1) (.int .i64 T4.rt.1) (.slice g2 T4.rt.2.length gm2) (.int .i64 T4.fr) (.int .i64 T4.to) (.slice g3 T4.l.length gm3) ∧ RdSt w' T4 (.slice g1 T4.lf.2.length gm1) (.slice g2 T4.rt.2.length gm2) (.slice g3 T4.l.length gm3) ∧ Set7 w' w7.heap.size (.int .i64 T5.lf.1) (.slice i1 T5.lf.2.length im1) (.int .i64 T5.rt.1) (.slice i2 T5.rt.2.length im2) (.int .i64 T5.fr) (.int .i64 T5.to) (.slice i3 T5.l.length im3) ∧ RdSt w' T5 (.slice i1 T5.lf.2.length im1) (.slice i2 T5.rt.2.length im2) (.slice i3 T5.l.length im3) ∧ Below w.heap.size w w') → R ⟨#[u0, u1, .int .i64 x, .int .i64 n, .pointer (some ⟨w.heap.size, 0, none⟩), .pointer (some ⟨w.heap.size + 1, 0, none⟩), undef, undef, .bool false, .bool true, .bool q, .pointer (some ⟨w3.heap.size, 0, none⟩), u12, .pointer (some ⟨w4.heap.size, 0, none⟩), .int .i64 E2, .pointer (some ⟨w5.heap.size, 0, none⟩), .int .i64 E3, .pointer (some ⟨w6.heap.size, 0, none⟩), .int .i64 E4, .pointer (some ⟨w7.heap.size, 0, none⟩), .int .i64 E5, u21, u22, u23, u24, u25, u26, u27, u28, u29, u30, u31, u32, u33, u34, u35, u36, u37, u38, u39, u40, u41, u42, u43, u44, u45, u46, u47, u48, u49, u50, u51, u52, u53, u54, u55, u56, u57, u58, u59, u60, u61, u62, u63, u64, u65, u66, u67, u68, u69, u70, u71, u72, u73, u74, u75, u76, u77, u78, u79, u80, u81, u82, u83, u84, u85, u86, u87, u88, u89, .bool true, undef, undef, undef, undef, undef, undef, undef, undef, undef, undef, undef, undef, undef, undef, undef, undef, undef, undef, undef, undef, undef, undef, undef, undef, undef, undef, undef, undef, undef, undef, undef, undef, undef, undef, undef, undef, undef, undef, undef, undef, undef, undef, undef, undef, undef, undef, undef, undef, undef, undef, undef, undef, undef], []⟩ w') → R a' w') :=
      ⟨fun a' w' => ∀ R : Act → World → Prop, (∀ (u0 u1 u12 u21 u22 u23 u24 u25 u26 u27 u28 u29 u30 u31 u32 u33 u34 u35 u36 u37 u38 u39 u40 u41 u42 u43 u44 u45 u46 u47 u48 u49 u50 u51 u52 u53 u54 u55 u56 u57 u58 u59 u60 u61 u62 u63 u64 u65 u66 u67 u68 u69 u70 u71 u72 u73 u74 u75 u76 u77 u78 u79 u80 u81 u82 u83 u84 u85 u86 u87 u88 u89 : Value) (w' : World), (Set7 w' w4.heap.size (.int .i64 T2.lf.1) (.slice d1 T2.lf.2.length dm1) (.int .i64 T2.rt.1) (.slice d2 T2.rt.2.length dm2) (.int .i64 T2.fr) (.int .i64 T2.to) (.slice d3 T2.l.length dm3) ∧ RdSt w' T2 (.slice d1 T2.lf.2.length dm1) (.slice d2 T2.rt.2.length dm2) (.slice d3 T2.l.length dm3) ∧ Set7 w' w5.heap.size (.int .i64 T3.lf.1) (.slice f1 T3.lf.2.length fm1) (.int .i64 T3.rt.1) (.slice f2 T3.rt.2.length fm2) (.int .i64 T3.fr) (.int .i64 T3.to) (.slice f3 T3.l.length fm3) ∧ RdSt w' T3 (.slice f1 T3.lf.2.length fm1) (.slice f2 T3.rt.2.length fm2) (.slice f3 T3.l.length fm3) ∧ Set7 w' w6.heap.size (.int .i64 T4.lf.1) (.slice g1 T4.lf.2.length gm1) (.int .i64 T4.rt.1) (.slice g2 T4.rt.2.length gm2) (.int .i64 T4.fr) (.int .i64 T4.to) (.slice g3 T4.l.length gm3) ∧ RdSt w' T4 (.slice g1 T4.lf.2.length gm1) (.slice g2 T4.rt.2.length gm2) (.slice g3 T4.l.length gm3) ∧ Set7 w' w7.heap.size (.int .i64 T5.lf.1) (.slice i1 T5.lf.2.length im1) (.int .i64 T5.rt.1) (.slice i2 T5.rt.2.length im2) (.int .i64 T5.fr) (.int .i64 T5.to) (.slice i3 T5.l.length im3) ∧ RdSt w' T5 (.slice i1 T5.lf.2.length im1) (.slice i2 T5.rt.2.length im2) (.slice i3 T5.l.length im3) ∧ Below w.heap.size w w') → R ⟨#[u0, u1, .int .i64 x, .int .i64 n, .pointer (some ⟨w.heap.size, 0, none⟩), .pointer (some ⟨w.heap.size + 1, 0, none⟩), undef, undef, .bool false, .bool true, .bool q, .pointer (some ⟨w3.heap.size, 0, none⟩), u12, .pointer (some ⟨w4.heap.size, 0, none⟩), .int .i64 E2, .pointer (some ⟨w5.heap.size, 0, none⟩), .int .i64 E3, .pointer (some ⟨w6.heap.size, 0, none⟩), .int .i64 E4, .pointer (some ⟨w7.heap.size, 0, none⟩), .int .i64 E5, u21, u22, u23, u24, u25, u26, u27, u28, u29, u30, u31, u32, u33, u34, u35, u36, u37, u38, u39, u40, u41, u42, u43, u44, u45, u46, u47, u48, u49, u50, u51, u52, u53, u54, u55, u56, u57, u58, u59, u60, u61, u62, u63, u64, u65, u66, u67, u68, u69, u70, u71, u72, u73, u74, u75, u76, u77, u78, u79, u80, u81, u82, u83, u84, u85, u86, u87, u88, u89, .bool true, undef, undef, undef, undef, undef, undef, undef, undef, undef, undef, undef, undef, undef, undef, undef, undef, undef, undef, undef, undef, undef, undef, undef, undef, undef, undef, undef, undef, undef, undef, undef, undef, undef, undef, undef, undef, undef, undef, undef, undef, undef, undef, undef, undef, undef, undef, undef, undef, undef, undef, undef, undef, undef], []⟩ w') → R a' w', fun u0 u1 u12 u21 u22 u23 u24 u25 u26 u27 u28 u29 u30 u31 u32 u33 u34 u35 u36 u37 u38 u39 u40 u41 u42 u43 u44 u45 u46 u47 u48 u49 u50 u51 u52 u53 u54 u55 u56 u57 u58 u59 u60 u61 u62 u63 u64 u65 u66 u67 u68 u69 u70 u71 u72 u73 u74 u75 u76 u77 u78 u79 u80 u81 u82 u83 u84 u85 u86 u87 u88 u89 w' h R hR => hR u0 u1 u12 u21 u22 u23 u24 u25 u26 u27 u28 u29 u30 u31 u32 u33 u34 u35 u36 u37 u38 u39 u40 u41 u42 u43 u44 u45 u46 u47 u48 u49 u50 u51 u52 u53 u54 u55 u56 u57 u58 u59 u60 u61 u62 u63 u64 u65 u66 u67 u68 u69 u70 u71 u72 u73 u74 u75 u76 u77 u78 u79 u80 u81 u82 u83 u84 u85 u86 u87 u88 u89 w' h, fun a' w' h => h⟩
    refine wpList_at 13 K0 ?_ ?_
    · simp only [List.take_succ_cons, List.take_zero]
      clear HKe
      by_cases g0 : E1 = 0
      · have gb0 : (E1 == 0) = true := by simpa using g0
        have HG0 := Lib.hid g0
        clear g0
        go_wp2_with fail
        refine (KT1.out HG0.out _ _ _ _ HS0.out.2.1).mono ?_
        rintro e vg ⟨rfl, hb⟩
        have HL := Lib.hid (And.intro (HS0.out.1.below hb) (And.intro (keepSt hb HS0.out.2.1) (And.intro (HS0.out.2.2.1.below hb) (And.intro (keepSt hb HS0.out.2.2.2.1) (And.intro (HS0.out.2.2.2.2.1.below hb) (And.intro (keepSt hb HS0.out.2.2.2.2.2.1) (And.intro (HS0.out.2.2.2.2.2.2.1.below hb) (And.intro (keepSt hb HS0.out.2.2.2.2.2.2.2.1) (And.intro (HS0.out.2.2.2.2.2.2.2.2.1.below hb) (And.intro (keepSt hb HS0.out.2.2.2.2.2.2.2.2.2.1) (keepBelow HS0.out.2.2.2.2.2.2.2.2.2.2 hb)))))))))))
        have HM := (And.intro HL.out.2.2.1 (And.intro HL.out.2.2.2.1 (And.intro HL.out.2.2.2.2.1 (And.intro HL.out.2.2.2.2.2.1 (And.intro HL.out.2.2.2.2.2.2.1 (And.intro HL.out.2.2.2.2.2.2.2.1 (And.intro HL.out.2.2.2.2.2.2.2.2.1 (And.intro HL.out.2.2.2.2.2.2.2.2.2.1 HL.out.2.2.2.2.2.2.2.2.2.2))))))))
        clear HL
        go_wp2
        show K0 _ _
        exact HKi.out _ _ _ _ _ _ _ _ _ _ _ _ _ _ _ _ _ _ _ _ _ _ _ _ _ _ _ _ _ _ _ _ _ _ _ _ _ _ _ _ _ _ _ _ _ _ _ _ _ _ _ _ _ _ _ _ _ _ _ _ _ _ _ _ _ _ _ _ _ _ _ _ _ HM
      · have gb0 : (E1 != 0) = true := by simpa using g0
        clear g0
        have HM := Lib.hid ((And.intro HS0.out.2.2.1 (And.intro HS0.out.2.2.2.1 (And.intro HS0.out.2.2.2.2.1 (And.intro HS0.out.2.2.2.2.2.1 (And.intro HS0.out.2.2.2.2.2.2.1 (And.intro HS0.out.2.2.2.2.2.2.2.1 (And.intro HS0.out.2.2.2.2.2.2.2.2.1 (And.intro HS0.out.2.2.2.2.2.2.2.2.2.1 HS0.out.2.2.2.2.2.2.2.2.2.2)))))))))
        go_wp2
        show K0 _ _
        exact HKi.out _ _ _ _ _ _ _ _ _ _ _ _ _ _ _ _ _ _ _ _ _ _ _ _ _ _ _ _ _ _ _ _ _ _ _ _ _ _ _ _ _ _ _ _ _ _ _ _ _ _ _ _ _ _ _ _ _ _ _ _ _ _ _ _ _ _ _ _ _ _ _ _ _ HM.out
    intro a' v0 hK
    refine HKe.out a' v0 hK _ ?_
    clear hK a' v0
    intro u0 u1 u12 u21 u22 u23 u24 u25 u26 u27 u28 u29 u30 u31 u32 u33 u34 u35 u36 u37 u38 u39 u40 u41 u42 u43 u44 u45 u46 u47 u48 u49 u50 u51 u52 u53 u54 u55 u56 u57 u58 u59 u60 u61 u62 u63 u64 u65 u66 u67 u68 u69 u70 u71 u72 u73 u74 u75 u76 u77 u78 u79 u80 u81 u82 u83 u84 u85 u86 u87 u88 u89 v0 HS
    have HS1 := Lib.hid HS
    clear C0 C1 C2 C3 C4 C5 C6 hbe
    clear HS HS0 KT1 HKi HKe
    simp only [List.drop_succ_cons, List.drop_zero]
    obtain ⟨⟨⟨D0, D1, D2, D3, D4, D5, D6⟩, -⟩, -, -, -, -, -, -, -, hbe⟩ := HS1.out
    obtain ⟨K1, HKi, HKe⟩ : ∃ K : Act → World → Prop, Hid (∀ (u0 u1 u12 u14 u21 u22 u23 u24 u25 u26 u27 u28 u29 u30 u31 u32 u33 u34 u35 u36 u37 u38 u39 u40 u41 u42 u43 u44 u45 u46 u47 u48 u49 u50 u51 u52 u53 u54 u55 u56 u57 u58 u59 u60 u61 u62 u63 u64 u65 u66 u67 u68 u69 u70 u71 u72 u73 u74 u75 u76 u77 u78 u79 u80 u81 u82 u83 u84 u85 u86 u87 u88 u89 u90 u91 u92 u93 u94 u95 u96 u97 u98 u99 u100 u101 u102 : Value) (w' : World), (Set7 w' w5.heap.size (.int .i64 T3.lf.1) (.slice f1 T3.lf.2.length fm1) (.int .i64 T3.rt.1) (.slice f2 T3.rt.2.length fm2) (.int .i64 T3.fr) (.int .i64 T3.to) (.slice f3 T3.l.length fm3) ∧ RdSt w' T3 (.slice f1 T3.lf.2.length fm1) (.slice f2 T3.rt.2.length fm2) (.slice f3 T3.l.length fm3) ∧ Set7 w' w6.heap.size (.int .i64 T4.lf.1) (.slice g1 T4.lf.2.length gm1) (.int .i64 T4.rt.1) (.slice g2 T4.rt.2.length gm2) (.int .i64 T4.fr) (.int .i64 T4.to) (.slice g3 T4.l.length gm3) ∧ RdSt w' T4 (.slice g1 T4.lf.2.length gm1) (.slice g2 T4.rt.2.length gm2) (.slice g3 T4.l.length gm3) ∧ Set7 w' w7.heap.size (.int .i64 T5.lf.1) (.slice i1 T5.lf.2.length im1) (.int .i64 T5.rt.1) (.slice i2 T5.rt.2.length im2) (.int .i64 T5.fr) (.int .i64 T5.to) (.slice i3 T5.l.length im3) ∧ RdSt w' T5 (.slice i1 T5.lf.2.length im1) (.slice i2 T5.rt.2.length im2) (.slice i3 T5.l.length im3) ∧ Below w.heap.size w w') → K ⟨#[u0, u1, .int .i64 x, .int .i64 n, .pointer (some ⟨w.heap.size, 0, none⟩), .pointer (some ⟨w.heap.size + 1, 0, none⟩), undef, undef, .bool false, .bool true, .bool q, .pointer (some ⟨w3.heap.size, 0, none⟩), u12, .pointer (some ⟨w4.heap.size, 0, none⟩), u14, .pointer (some ⟨w5.heap.size, 0, none⟩), .int .i64 E3, .pointer (some ⟨w6.heap.size, 0, none⟩), .int .i64 E4, .pointer (some ⟨w7.heap.size, 0, none⟩), .int .i64 E5, u21, u22, u23, u24, u25, u26, u27, u28, u29, u30, u31, u32, u33, u34, u35, u36, u37, u38, u39, u40, u41, u42, u43, u44, u45, u46, u47, u48, u49, u50, u51, u52, u53, u54, u55, u56, u57, u58, u59, u60, u61, u62, u63, u64, u65, u66, u67, u68, u69, u70, u71, u72, u73, u74, u75, u76, u77, u78, u79, u80, u81, u82, u83, u84, u85, u86, u87, u88, u89, u90, u91, u92, u93, u94, u95, u96, u97, u98, u99, u100, u101, u102, .bool true, undef, undef, undef, undef, undef, undef, undef, undef, undef, undef, undef, undef, undef, undef, undef, undef, undef, undef, undef, undef, undef, undef, undef, undef, undef, undef, undef, undef, undef, undef, undef, undef, undef, undef, undef, undef, undef, undef, undef, undef], []⟩ w') ∧ Hid (∀ a' w', K a' w' → ∀ R : Act → World → Prop, (∀ (u0 u1 u12 u14 u21 u22 u23 u24 u25 u26 u27 u28 u29 u30 u31 u32 u33 u34 u35 u36 u37 u38 u39 u40 u41 u42 u43 u44 u45 u46 u47 u48 u49 u50 u51 u52 u53 u54 u55 u56 u57 u58 u59 u60 u61 u62 u63 u64 u65 u66 u67 u68 u69 u70 u71 u72 u73 u74 u75 u76 u77 u78 u79 u80 u81 u82 u83 u84 u85 u86 u87 u88 u89 u90 u91 u92 u93 u94 u95 u96 u97 u98 u99 u100 u101 u102 : Value) (w' : World), (Set7 w' w5.heap.size (.int .i64 T3.lf.1) (.slice f1 T3.lf.2.length fm1) (.int .i64 T3.rt.1) (.slice f2 T3.rt.2.length fm2) (.int .i64 T3.fr) (.int .i64 T3.to) (.slice f3 T3.l.length fm3) ∧ RdSt w' T3 (.slice f1 T3.lf.2.length fm1) (.slice f2 T3.rt.2.length fm2) (.slice f3 T3.l.length fm3) ∧ Set7 w' w6.heap.size (.int .i64 T4.lf.1) (.slice g1 T4.lf.2.length gm1) (.int .i64 T4.rt.1) (.slice g2 T4.rt.2.length gm2) (.int .i64 T4.fr) (.int .i64 T4.to) (.slice g3 T4.l.length gm3) ∧ RdSt w' T4 (.slice g1 T4.lf.2.length gm1) (.slice g2 T4.rt.2.length gm2) (.slice g3 T4.l.length gm3) ∧ Set7 w' w7.heap.size (.int .i64 T5.lf.1) (.slice i1 T5.lf.2.length im1) (.int .i64 T5.rt.1) (.slice i2 T5.rt.2.length im2) (.int .i64 T5.fr) (.int .i64 T5.to) (.slice i3 T5.l.length im3) ∧ RdSt w' T5 (.slice i1 T5.lf.2.length im1) (.slice i2 T5.rt.2.length im2) (.slice i3 T5.l.length im3) ∧ Below w.heap.size w w') → R ⟨#[u0, u1, .int .i64 x, .int .i64 n, .pointer (some ⟨w.heap.size, 0, none⟩), .pointer (some ⟨w.heap.size + 1, 0, none⟩), undef, undef, .bool false, .bool true, .bool q, .pointer (some ⟨w3.heap.size, 0, none⟩), u12, .pointer (some ⟨w4.heap.size, 0, none⟩), u14, .pointer (some ⟨w5.heap.size, 0, none⟩), .int .i64 E3, .pointer (some ⟨w6.heap.size, 0, none⟩), .int .i64 E4, .pointer (some ⟨w7.heap.size, 0, none⟩), .int .i64 E5, u21, u22, u23, u24, u25, u26, u27, u28, u29, u30, u31, u32, u33, u34, u35, u36, u37, u38, u39, u40, u41, u42, u43, u44, u45, u46, u47, u48, u49, u50, u51, u52, u53, u54, u55, u56, u57, u58, u59, u60, u61, u62, u63, u64, u65, u66, u67, u68, u69, u70, u71, u72, u73, u74, u75, u76, u77, u78, u79, u80, u81, u82, u83, u84, u85, u86, u87, u88, u89, u90, u91, u92, u93, u94, u95, u96, u97, u98, u99, u100, u101, u102, .bool true, undef, undef, undef, undef, undef, undef, undef, undef, undef, undef, undef, undef, undef, undef, undef, undef, undef, undef, undef, undef, undef, undef, undef, undef, undef, undef, undef, undef, undef, undef, undef, undef, undef, undef, undef, undef, undef, undef, undef, undef], []⟩ w') → R a' w') :=
      ⟨fun a' w' => ∀ R : Act → World → Prop, (∀ (u0 u1 u12 u14 u21 u22 u23 u24 u25 u26 u27 u28 u29 u30 u31 u32 u33 u34 u35 u36 u37 u38 u39 u40 u41 u42 u43 u44 u45 u46 u47 u48 u49 u50 u51 u52 u53 u54 u55 u56 u57 u58 u59 u60 u61 u62 u63 u64 u65 u66 u67 u68 u69 u70 u71 u72 u73 u74 u75 u76 u77 u78 u79 u80 u81 u82 u83 u84 u85 u86 u87 u88 u89 u90 u91 u92 u93 u94 u95 u96 u97 u98 u99 u100 u101 u102 : Value) (w' : World), (Set7 w' w5.heap.size (.int .i64 T3.lf.1) (.slice f1 T3.lf.2.length fm1) (.int .i64 T3.rt.1) (.slice f2 T3.rt.2.length fm2) (.int .i64 T3.fr) (.int .i64 T3.to) (.slice f3 T3.l.length fm3) ∧ RdSt w' T3 (.slice f1 T3.lf.2.length fm1) (.slice f2 T3.rt.2.length fm2) (.slice f3 T3.l.length fm3) ∧ Set7 w' w6.heap.size (.int .i64 T4.lf.1) (.slice g1 T4.lf.2.length gm1) (.int .i64 T4.rt.1) (.slice g2 T4.rt.2.length gm2) (.int .i64 T4.fr) (.int .i64 T4.to) (.slice g3 T4.l.length gm3) ∧ RdSt w' T4 (.slice g1 T4.lf.2.length gm1) (.slice g2 T4.rt.2.length gm2) (.slice g3 T4.l.length gm3) ∧ Set7 w' w7.heap.size (.int .i64 T5.lf.1) (.slice i1 T5.lf.2.length im1) (.int .i64 T5.rt.1) (.slice i2 T5.rt.2.length im2) (.int .i64 T5.fr) (.int .i64 T5.to) (.slice i3 T5.l.length im3) ∧ RdSt w' T5 (.slice i1 T5.lf.2.length im1) (.slice i2 T5.rt.2.length im2) (.slice i3 T5.l.length im3) ∧ Below w.heap.size w w') → R ⟨#[u0, u1, .int .i64 x, .int .i64 n, .pointer (some ⟨w.heap.size, 0, none⟩), .pointer (some ⟨w.heap.size + 1, 0, none⟩), undef, undef, .bool false, .bool true, .bool q, .pointer (some ⟨w3.heap.size, 0, none⟩), u12, .pointer (some ⟨w4.heap.size, 0, none⟩), u14, .pointer (some ⟨w5.heap.size, 0, none⟩), .int .i64 E3, .pointer (some ⟨w6.heap.size, 0, none⟩), .int .i64 E4, .pointer (some ⟨w7.heap.size, 0, none⟩), .int .i64 E5, u21, u22, u23, u24, u25, u26, u27, u28, u29, u30, u31, u32, u33, u34, u35, u36, u37, u38, u39, u40, u41, u42, u43, u44, u45, u46, u47, u48, u49, u50, u51, u52, u53, u54, u55, u56, u57, u58, u59, u60, u61, u62, u63, u64, u65, u66, u67, u68, u69, u70, u71, u72, u73, u74, u75, u76, u77, u78, u79, u80, u81, u82, u83, u84, u85, u86, u87, u88, u89, u90, u91, u92, u93, u94, u95, u96, u97, u98, u99, u100, u101, u102, .bool true, undef, undef, undef, undef, undef, undef, undef, undef, undef, undef, undef, undef, undef, undef, undef, undef, undef, undef, undef, undef, undef, undef, undef, undef, undef, undef, undef, undef, undef, undef, undef, undef, undef, undef, undef, undef, undef, undef, undef, undef], []⟩ w') → R a' w', fun u0 u1 u12 u14 u21 u22 u23 u24 u25 u26 u27 u28 u29 u30 u31 u32 u33 u34 u35 u36 u37 u38 u39 u40 u41 u42 u43 u44 u45 u46 u47 u48 u49 u50 u51 u52 u53 u54 u55 u56 u57 u58 u59 u60 u61 u62 u63 u64 u65 u66 u67 u68 u69 u70 u71 u72 u73 u74 u75 u76 u77 u78 u79 u80 u81 u82 u83 u84 u85 u86 u87 u88 u89 u90 u91 u92 u93 u94 u95 u96 u97 u98 u99 u100 u101 u102 w' h R hR => hR u0 u1 u12 u14 u21 u22 u23 u24 u25 u26 u27 u28 u29 u30 u31 u32 u33 u34 u35 u36 u37 u38 u39 u40 u41 u42 u43 u44 u45 u46 u47 u48 u49 u50 u51 u52 u53 u54 u55 u56 u57 u58 u59 u60 u61 u62 u63 u64 u65 u66 u67 u68 u69 u70 u71 u72 u73 u74 u75 u76 u77 u78 u79 u80 u81 u82 u83 u84 u85 u86 u87 u88 u89 u90 u91 u92 u93 u94 u95 u96 u97 u98 u99 u100 u101 u102 w' h, fun a' w' h => h⟩
    refine wpList_at 13 K1 ?_ ?_
    · simp only [List.take_succ_cons, List.take_zero]
      clear HKe
      by_cases g1 : E2 = 0
      · have gb1 : (E2 == 0) = true := by simpa using g1
        have HG1 := Lib.hid g1
        clear g1
        go_wp2_with fail
        refine (KT2.out HG1.out _ _ _ _ HS1.out.2.1).mono ?_
        rintro e vg ⟨rfl, hb⟩
        have HL := Lib.hid (And.intro (HS1.out.1.below hb) (And.intro (keepSt hb HS1.out.2.1) (And.intro (HS1.out.2.2.1.below hb) (And.intro (keepSt hb HS1.out.2.2.2.1) (And.intro (HS1.out.2.2.2.2.1.below hb) (And.intro (keepSt hb HS1.out.2.2.2.2.2.1) (And.intro (HS1.out.2.2.2.2.2.2.1.below hb) (And.intro (keepSt hb HS1.out.2.2.2.2.2.2.2.1) (keepBelow HS1.out.2.2.2.2.2.2.2.2 hb)))))))))
        have HM := (And.intro HL.out.2.2.1 (And.intro HL.out.2.2.2.1 (And.intro HL.out.2.2.2.2.1 (And.intro HL.out.2.2.2.2.2.1 (And.intro HL.out.2.2.2.2.2.2.1 (And.intro HL.out.2.2.2.2.2.2.2.1 HL.out.2.2.2.2.2.2.2.2))))))
        clear HL
        go_wp2
        show K1 _ _
        exact HKi.out _ _ _ _ _ _ _ _ _ _ _ _ _ _ _ _ _ _ _ _ _ _ _ _ _ _ _ _ _ _ _ _ _ _ _ _ _ _ _ _ _ _ _ _ _ _ _ _ _ _ _ _ _ _ _ _ _ _ _ _ _ _ _ _ _ _ _ _ _ _ _ _ _ _ _ _ _ _ _ _ _ _ _ _ _ _ _ HM
      · have gb1 : (E2 != 0) = true := by simpa using g1
        clear g1
        have HM := Lib.hid ((And.intro HS1.out.2.2.1 (And.intro HS1.out.2.2.2.1 (And.intro HS1.out.2.2.2.2.1 (And.intro HS1.out.2.2.2.2.2.1 (And.intro HS1.out.2.2.2.2.2.2.1 (And.intro HS1.out.2.2.2.2.2.2.2.1 HS1.out.2.2.2.2.2.2.2.2)))))))
        go_wp2
        show K1 _ _
        exact HKi.out _ _ _ _ _ _ _ _ _ _ _ _ _ _ _ _ _ _ _ _ _ _ _ _ _ _ _ _ _ _ _ _ _ _ _ _ _ _ _ _ _ _ _ _ _ _ _ _ _ _ _ _ _ _ _ _ _ _ _ _ _ _ _ _ _ _ _ _ _ _ _ _ _ _ _ _ _ _ _ _ _ _ _ _ _ _ _ HM.out
    intro a' v1 hK
    refine HKe.out a' v1 hK _ ?_
    clear hK a' v1
    intro u0 u1 u12 u14 u21 u22 u23 u24 u25 u26 u27 u28 u29 u30 u31 u32 u33 u34 u35 u36 u37 u38 u39 u40 u41 u42 u43 u44 u45 u46 u47 u48 u49 u50 u51 u52 u53 u54 u55 u56 u57 u58 u59 u60 u61 u62 u63 u64 u65 u66 u67 u68 u69 u70 u71 u72 u73 u74 u75 u76 u77 u78 u79 u80 u81 u82 u83 u84 u85 u86 u87 u88 u89 u90 u91 u92 u93 u94 u95 u96 u97 u98 u99 u100 u101 u102 v1 HS
    have HS2 := Lib.hid HS
    clear D0 D1 D2 D3 D4 D5 D6 hbe
    clear HS HS1 KT2 HKi HKe
    simp only [List.drop_succ_cons, List.drop_zero]
    obtain ⟨⟨⟨F0, F1, F2, F3, F4, F5, F6⟩, -⟩, -, -, -, -, -, hbe⟩ := HS2.out
    obtain ⟨K2, HKi, HKe⟩ : ∃ K : Act → World → Prop, Hid (∀ (u0 u1 u12 u14 u16 u21 u22 u23 u24 u25 u26 u27 u28 u29 u30 u31 u32 u33 u34 u35 u36 u37 u38 u39 u40 u41 u42 u43 u44 u45 u46 u47 u48 u49 u50 u51 u52 u53 u54 u55 u56 u57 u58 u59 u60 u61 u62 u63 u64 u65 u66 u67 u68 u69 u70 u71 u72 u73 u74 u75 u76 u77 u78 u79 u80 u81 u82 u83 u84 u85 u86 u87 u88 u89 u90 u91 u92 u93 u94 u95 u96 u97 u98 u99 u100 u101 u102 u103 u104 u105 u106 u107 u108 u109 u110 u111 u112 u113 u114 u115 u116 u117 : Value) (w' : World), (Set7 w' w6.heap.size (.int .i64 T4.lf.1) (.slice g1 T4.lf.2.length gm1) (.int .i64 T4.rt.1) (.slice g2 T4.rt.2.length gm2) (.int .i64 T4.fr) (.int .i64 T4.to) (.slice g3 T4.l.length gm3) ∧ RdSt w' T4 (.slice g1 T4.lf.2.length gm1) (.slice g2 T4.rt.2.length gm2) (.slice g3 T4.l.length gm3) ∧ Set7 w' w7.heap.size (.int .i64 T5.lf.1) (.slice i1 T5.lf.2.length im1) (.int .i64 T5.rt.1) (.slice i2 T5.rt.2.length im2) (.int .i64 T5.fr) (.int .i64 T5.to) (.slice i3 T5.l.length im3) ∧ RdSt w' T5 (.slice i1 T5.lf.2.length im1) (.slice i2 T5.rt.2.length im2) (.slice i3 T5.l.length im3) ∧ Below w.heap.size w w') → K ⟨#[u0, u1, .int .i64 x, .int .i64 n, .pointer (some ⟨w.heap.size, 0, none⟩), .pointer (some ⟨w.heap.size + 1, 0, none⟩), undef, undef, .bool false, .bool true, .bool q, .pointer (some ⟨w3.heap.size, 0, none⟩), u12, .pointer (some ⟨w4.heap.size, 0, none⟩), u14, .pointer (some ⟨w5.heap.size, 0, none⟩), u16, .pointer (some ⟨w6.heap.size, 0, none⟩), .int .i64 E4, .pointer (some ⟨w7.heap.size, 0, none⟩), .int .i64 E5, u21, u22, u23, u24, u25, u26, u27, u28, u29, u30, u31, u32, u33, u34, u35, u36, u37, u38, u39, u40, u41, u42, u43, u44, u45, u46, u47, u48, u49, u50, u51, u52, u53, u54, u55, u56, u57, u58, u59, u60, u61, u62, u63, u64, u65, u66, u67, u68, u69, u70, u71, u72, u73, u74, u75, u76, u77, u78, u79, u80, u81, u82, u83, u84, u85, u86, u87, u88, u89, u90, u91, u92, u93, u94, u95, u96, u97, u98, u99, u100, u101, u102, u103, u104, u105, u106, u107, u108, u109, u110, u111, u112, u113, u114, u115, u116, u117, .bool true, undef, undef, undef, undef, undef, undef, undef, undef, undef, undef, undef, undef, undef, undef, undef, undef, undef, undef, undef, undef, undef, undef, undef, undef, undef], []⟩ w') ∧ Hid (∀ a' w', K a' w' → ∀ R : Act → World → Prop, (∀ (u0 u1 u12 u14 u16 u21 u22 u23 u24 u25 u26 u27 u28 u29 u30 u31 u32 u33 u34 u35 u36 u37 u38 u39 u40 u41 u42 u43 u44 u45 u46 u47 u48 u49 u50 u51 u52 u53 u54 u55 u56 u57 u58 u59 u60 u61 u62 u63 u64 u65 u66 u67 u68 u69 u70 u71 u72 u73 u74 u75 u76 u77 u78 u79 u80 u81 u82 u83 u84 u85 u86 u87 u88 u89 u90 u91 u92 u93 u94 u95 u96 u97 u98 u99 u100 u101 u102 u103 u104 u105 u106 u107 u108 u109 u110 u111 u112 u113 u114 u115 u116 u117 : Value) (w' : World), (Set7 w' w6.heap.size (.int .i64 T4.lf.1) (.slice g1 T4.lf.2.length gm1) (.int .i64 T4.rt.1) (.slice g2 T4.rt.2.length gm2) (.int .i64 T4.fr) (.int .i64 T4.to) (.slice g3 T4.l.length gm3) ∧ RdSt w' T4 (.slice g1 T4.lf.2.length gm1) (.slice g2 T4.rt.2.length gm2) (.slice g3 T4.l.length gm3) ∧ Set7 w' w7.heap.size (.int .i64 T5.lf.1) (.slice i1 T5.lf.2.length im1) (.int .i64 T5.rt.1) (.slice i2 T5.rt.2.length im2) (.int .i64 T5.fr) (.int .i64 T5.to) (.slice i3 T5.l.length im3) ∧ RdSt w' T5 (.slice i1 T5.lf.2.length im1) (.slice i2 T5.rt.2.length im2) (.slice i3 T5.l.length im3) ∧ Below w.heap.size w w') → R ⟨#[u0, u1, .int .i64 x, .int .i64 n, .pointer (some ⟨w.heap.size, 0, none⟩), .pointer (some ⟨w.heap.size + 1, 0, none⟩), undef, undef, .bool false, .bool true, .bool q, .pointer (some ⟨w3.heap.size, 0, none⟩), u12, .pointer (some ⟨w4.heap.size, 0, none⟩), u14, .pointer (some ⟨w5.heap.size, 0, none⟩), u16, .pointer (some ⟨w6.heap.size, 0, none⟩), .int .i64 E4, .pointer (some ⟨w7.heap.size, 0, none⟩), .int .i64 E5, u21, u22, u23, u24, u25, u26, u27, u28, u29, u30, u31, u32, u33, u34, u35, u36, u37, u38, u39, u40, u41, u42, u43, u44, u45, u46, u47, u48, u49, u50, u51, u52, u53, u54, u55, u56, u57, u58, u59, u60, u61, u62, u63, u64, u65, u66, u67, u68, u69, u70, u71, u72, u73, u74, u75, u76, u77, u78, u79, u80, u81, u82, u83, u84, u85, u86, u87, u88, u89, u90, u91, u92, u93, u94, u95, u96, u97, u98, u99, u100, u101, u102, u103, u104, u105, u106, u107, u108, u109, u110, u111, u112, u113, u114, u115, u116, u117, .bool true, undef, undef, undef, undef, undef, undef, undef, undef, undef, undef, undef, undef, undef, undef, undef, undef, undef, undef, undef, undef, undef, undef, undef, undef, undef], []⟩ w') → R a' w') :=
      ⟨fun a' w' => ∀ R : Act → World → Prop, (∀ (u0 u1 u12 u14 u16 u21 u22 u23 u24 u25 u26 u27 u28 u29 u30 u31 u32 u33 u34 u35 u36 u37 u38 u39 u40 u41 u42 u43 u44 u45 u46 u47 u48 u49 u50 u51 u52 u53 u54 u55 u56 u57 u58 u59 u60 u61 u62 u63 u64 u65 u66 u67 u68 u69 u70 u71 u72 u73 u74 u75 u76 u77 u78 u79 u80 u81 u82 u83 u84 u85 u86 u87 u88 u89 u90 u91 u92 u93 u94 u95 u96 u97 u98 u99 u100 u101 u102 u103 u104 u105 u106 u107 u108 u109 u110 u111 u112 u113 u114 u115 u116 u117 : Value) (w' : World), (Set7 w' w6.heap.size (.int .i64 T4.lf.1) (.slice g1 T4.lf.2.length gm1) (.int .i64 T4.rt.1) (.slice g2 T4.rt.2.length gm2) (.int .i64 T4.fr) (.int .i64 T4.to) (.slice g3 T4.l.length gm3) ∧ RdSt w' T4 (.slice g1 T4.lf.2.length gm1) (.slice g2 T4.rt.2.length gm2) (.slice g3 T4.l.length gm3) ∧ Set7 w' w7.heap.size (.int .i64 T5.lf.1) (.slice i1 T5.lf.2.length im1) (.int .i64 T5.rt.1) (.slice i2 T5.rt.2.length im2) (.int .i64 T5.fr) (.int .i64 T5.to) (.slice i3 T5.l.length im3) ∧ RdSt w' T5 (.slice i1 T5.lf.2.length im1) (.slice i2 T5.rt.2.length im2) (.slice i3 T5.l.length im3) ∧ Below w.heap.size w w') → R ⟨#[u0, u1, .int .i64 x, .int .i64 n, .pointer (some ⟨w.heap.size, 0, none⟩), .pointer (some ⟨w.heap.size + 1, 0, none⟩), undef, undef, .bool false, .bool true, .bool q, .pointer (some ⟨w3.heap.size, 0, none⟩), u12, .pointer (some ⟨w4.heap.size, 0, none⟩), u14, .pointer (some ⟨w5.heap.size, 0, none⟩), u16, .pointer (some ⟨w6.heap.size, 0, none⟩), .int .i64 E4, .pointer (some ⟨w7.heap.size, 0, none⟩), .int .i64 E5, u21, u22, u23, u24, u25, u26, u27, u28, u29, u30, u31, u32, u33, u34, u35, u36, u37, u38, u39, u40, u41, u42, u43, u44, u45, u46, u47, u48, u49, u50, u51, u52, u53, u54, u55, u56, u57, u58, u59, u60, u61, u62, u63, u64, u65, u66, u67, u68, u69, u70, u71, u72, u73, u74, u75, u76, u77, u78, u79, u80, u81, u82, u83, u84, u85, u86, u87, u88, u89, u90, u91, u92, u93, u94, u95, u96, u97, u98, u99, u100, u101, u102, u103, u104, u105, u106, u107, u108, u109, u110, u111, u112, u113, u114, u115, u116, u117, .bool true, undef, undef, undef, undef, undef, undef, undef, undef, undef, undef, undef, undef, undef, undef, undef, undef, undef, undef, undef, undef, undef, undef, undef, undef, undef], []⟩ w') → R a' w', fun u0 u1 u12 u14 u16 u21 u22 u23 u24 u25 u26 u27 u28 u29 u30 u31 u32 u33 u34 u35 u36 u37 u38 u39 u40 u41 u42 u43 u44 u45 u46 u47 u48 u49 u50 u51 u52 u53 u54 u55 u56 u57 u58 u59 u60 u61 u62 u63 u64 u65 u66 u67 u68 u69 u70 u71 u72 u73 u74 u75 u76 u77 u78 u79 u80 u81 u82 u83 u84 u85 u86 u87 u88 u89 u90 u91 u92 u93 u94 u95 u96 u97 u98 u99 u100 u101 u102 u103 u104 u105 u106 u107 u108 u109 u110 u111 u112 u113 u114 u115 u116 u117 w' h R hR => hR u0 u1 u12 u14 u16 u21 u22 u23 u24 u25 u26 u27 u28 u29 u30 u31 u32 u33 u34 u35 u36 u37 u38 u39 u40 u41 u42 u43 u44 u45 u46 u47 u48 u49 u50 u51 u52 u53 u54 u55 u56 u57 u58 u59 u60 u61 u62 u63 u64 u65 u66 u67 u68 u69 u70 u71 u72 u73 u74 u75 u76 u77 u78 u79 u80 u81 u82 u83 u84 u85 u86 u87 u88 u89 u90 u91 u92 u93 u94 u95 u96 u97 u98 u99 u100 u101 u102 u103 u104 u105 u106 u107 u108 u109 u110 u111 u112 u113 u114 u115 u116 u117 w' h, fun a' w' h => h⟩
    refine wpList_at 15 K2 ?_ ?_
    · simp only [List.take_succ_cons, List.take_zero]
      clear HKe
      by_cases g2 : E3 = 0
      · have gb2 : (E3 == 0) = true := by simpa using g2
        have HG2 := Lib.hid g2
        clear g2
        go_wp2_with fail
        refine (KT3.out HG2.out _ _ _ _ HS2.out.2.1).mono ?_
        rintro e vg ⟨rfl, hb⟩
        have HL := Lib.hid (And.intro (HS2.out.1.below hb) (And.intro (keepSt hb HS2.out.2.1) (And.intro (HS2.out.2.2.1.below hb) (And.intro (keepSt hb HS2.out.2.2.2.1) (And.intro (HS2.out.2.2.2.2.1.below hb) (And.intro (keepSt hb HS2.out.2.2.2.2.2.1) (keepBelow HS2.out.2.2.2.2.2.2 hb)))))))
        have HM := (And.intro HL.out.2.2.1 (And.intro HL.out.2.2.2.1 (And.intro HL.out.2.2.2.2.1 (And.intro HL.out.2.2.2.2.2.1 HL.out.2.2.2.2.2.2))))
        clear HL
        go_wp2
        show K2 _ _
        exact HKi.out _ _ _ _ _ _ _ _ _ _ _ _ _ _ _ _ _ _ _ _ _ _ _ _ _ _ _ _ _ _ _ _ _ _ _ _ _ _ _ _ _ _ _ _ _ _ _ _ _ _ _ _ _ _ _ _ _ _ _ _ _ _ _ _ _ _ _ _ _ _ _ _ _ _ _ _ _ _ _ _ _ _ _ _ _ _ _ _ _ _ _ _ _ _ _ _ _ _ _ _ _ _ _ HM
      · have gb2 : (E3 != 0) = true := by simpa using g2
        clear g2
        have HM := Lib.hid ((And.intro HS2.out.2.2.1 (And.intro HS2.out.2.2.2.1 (And.intro HS2.out.2.2.2.2.1 (And.intro HS2.out.2.2.2.2.2.1 HS2.out.2.2.2.2.2.2)))))
        go_wp2
        show K2 _ _
        exact HKi.out _ _ _ _ _ _ _ _ _ _ _ _ _ _ _ _ _ _ _ _ _ _ _ _ _ _ _ _ _ _ _ _ _ _ _ _ _ _ _ _ _ _ _ _ _ _ _ _ _ _ _ _ _ _ _ _ _ _ _ _ _ _ _ _ _ _ _ _ _ _ _ _ _ _ _ _ _ _ _ _ _ _ _ _ _ _ _ _ _ _ _ _ _ _ _ _ _ _ _ _ _ _ _ HM.out
    intro a' v2 hK
    refine HKe.out a' v2 hK _ ?_
    clear hK a' v2
    intro u0 u1 u12 u14 u16 u21 u22 u23 u24 u25 u26 u27 u28 u29 u30 u31 u32 u33 u34 u35 u36 u37 u38 u39 u40 u41 u42 u43 u44 u45 u46 u47 u48 u49 u50 u51 u52 u53 u54 u55 u56 u57 u58 u59 u60 u61 u62 u63 u64 u65 u66 u67 u68 u69 u70 u71 u72 u73 u74 u75 u76 u77 u78 u79 u80 u81 u82 u83 u84 u85 u86 u87 u88 u89 u90 u91 u92 u93 u94 u95 u96 u97 u98 u99 u100 u101 u102 u103 u104 u105 u106 u107 u108 u109 u110 u111 u112 u113 u114 u115 u116 u117 v2 HS
    have HS3 := Lib.hid HS
    clear F0 F1 F2 F3 F4 F5 F6 hbe
    clear HS HS2 KT3 HKi HKe
    simp only [List.drop_succ_cons, List.drop_zero]
    obtain ⟨⟨⟨G0, G1, G2, G3, G4, G5, G6⟩, -⟩, -, -, -, hbe⟩ := HS3.out
    obtain ⟨K3, HKi, HKe⟩ : ∃ K : Act → World → Prop, Hid (∀ (u0 u1 u12 u14 u16 u18 u21 u22 u23 u24 u25 u26 u27 u28 u29 u30 u31 u32 u33 u34 u35 u36 u37 u38 u39 u40 u41 u42 u43 u44 u45 u46 u47 u48 u49 u50 u51 u52 u53 u54 u55 u56 u57 u58 u59 u60 u61 u62 u63 u64 u65 u66 u67 u68 u69 u70 u71 u72 u73 u74 u75 u76 u77 u78 u79 u80 u81 u82 u83 u84 u85 u86 u87 u88 u89 u90 u91 u92 u93 u94 u95 u96 u97 u98 u99 u100 u101 u102 u103 u104 u105 u106 u107 u108 u109 u110 u111 u112 u113 u114 u115 u116 u117 u118 u119 u120 u121 u122 u123 u124 u125 u126 u127 u128 u129 : Value) (w' : World), (Set7 w' w7.heap.size (.int .i64 T5.lf.1) (.slice i1 T5.lf.2.length im1) (.int .i64 T5.rt.1) (.slice i2 T5.rt.2.length im2) (.int .i64 T5.fr) (.int .i64 T5.to) (.slice i3 T5.l.length im3) ∧ RdSt w' T5 (.slice i1 T5.lf.2.length im1) (.slice i2 T5.rt.2.length im2) (.slice i3 T5.l.length im3) ∧ Below w.heap.size w w') → K ⟨#[u0, u1, .int .i64 x, .int .i64 n, .pointer (some ⟨w.heap.size, 0, none⟩), .pointer (some ⟨w.heap.size + 1, 0, none⟩), undef, undef, .bool false, .bool true, .bool q, .pointer (some ⟨w3.heap.size, 0, none⟩), u12, .pointer (some ⟨w4.heap.size, 0, none⟩), u14, .pointer (some ⟨w5.heap.size, 0, none⟩), u16, .pointer (some ⟨w6.heap.size, 0, none⟩), u18, .pointer (some ⟨w7.heap.size, 0, none⟩), .int .i64 E5, u21, u22, u23, u24, u25, u26, u27, u28, u29, u30, u31, u32, u33, u34, u35, u36, u37, u38, u39, u40, u41, u42, u43, u44, u45, u46, u47, u48, u49, u50, u51, u52, u53, u54, u55, u56, u57, u58, u59, u60, u61, u62, u63, u64, u65, u66, u67, u68, u69, u70, u71, u72, u73, u74, u75, u76, u77, u78, u79, u80, u81, u82, u83, u84, u85, u86, u87, u88, u89, u90, u91, u92, u93, u94, u95, u96, u97, u98, u99, u100, u101, u102, u103, u104, u105, u106, u107, u108, u109, u110, u111, u112, u113, u114, u115, u116, u117, u118, u119, u120, u121, u122, u123, u124, u125, u126, u127, u128, u129, .bool true, undef, undef, undef, undef, undef, undef, undef, undef, undef, undef, undef, undef, undef], []⟩ w') ∧ Hid (∀ a' w', K a' w' → ∀ R : Act → World → Prop, (∀ (u0 u1 u12 u14 u16 u18 u21 u22 u23 u24 u25 u26 u27 u28 u29 u30 u31 u32 u33 u34 u35 u36 u37 u38 u39 u40 u41 u42 u43 u44 u45 u46 u47 u48 u49 u50 u51 u52 u53 u54 u55 u56 u57 u58 u59 u60 u61 u62 u63 u64 u65 u66 u67 u68 u69 u70 u71 u72 u73 u74 u75 u76 u77 u78 u79 u80 u81 u82 u83 u84 u85 u86 u87 u88 u89 u90 u91 u92 u93 u94 u95 u96 u97 u98 u99 u100 u101 u102 u103 u104 u105 u106 u107 u108 u109 u110 u111 u112 u113 u114 u115 u116 u117 u118 u119 u120 u121 u122 u123 u124 u125 u126 u127 u128 u129 : Value) (w' : World), (Set7 w' w7.heap.size (.int .i64 T5.lf.1) (.slice i1 T5.lf.2.length im1) (.int .i64 T5.rt.1) (.slice i2 T5.rt.2.length im2) (.int .i64 T5.fr) (.int .i64 T5.to) (.slice i3 T5.l.length im3) ∧ RdSt w' T5 (.slice i1 T5.lf.2.length im1) (.slice i2 T5.rt.2.length im2) (.slice i3 T5.l.length im3) ∧ Below w.heap.size w w') → R ⟨#[u0, u1, .int .i64 x, .int .i64 n, .pointer (some ⟨w.heap.size, 0, none⟩), .pointer (some ⟨w.heap.size + 1, 0, none⟩), undef, undef, .bool false, .bool true, .bool q, .pointer (some ⟨w3.heap.size, 0, none⟩), u12, .pointer (some ⟨w4.heap.size, 0, none⟩), u14, .pointer (some ⟨w5.heap.size, 0, none⟩), u16, .pointer (some ⟨w6.heap.size, 0, none⟩), u18, .pointer (some ⟨w7.heap.size, 0, none⟩), .int .i64 E5, u21, u22, u23, u24, u25, u26, u27, u28, u29, u30, u31, u32, u33, u34, u35, u36, u37, u38, u39, u40, u41, u42, u43, u44, u45, u46, u47, u48, u49, u50, u51, u52, u53, u54, u55, u56, u57, u58, u59, u60, u61, u62, u63, u64, u65, u66, u67, u68, u69, u70, u71, u72, u73, u74, u75, u76, u77, u78, u79, u80, u81, u82, u83, u84, u85, u86, u87, u88, u89, u90, u91, u92, u93, u94, u95, u96, u97, u98, u99, u100, u101, u102, u103, u104, u105, u106, u107, u108, u109, u110, u111, u112, u113, u114, u115, u116, u117, u118, u119, u120, u121, u122, u123, u124, u125, u126, u127, u128, u129, .bool true, undef, undef, undef, undef, undef, undef, undef, undef, undef, undef, undef, undef, undef], []⟩ w') → R a' w') :=
      ⟨fun a' w' => ∀ R : Act → World → Prop, (∀ (u0 u1 u12 u14 u16 u18 u21 u22 u23 u24 u25 u26 u27 u28 u29 u30 u31 u32 u33 u34 u35 u36 u37 u38 u39 u40 u41 u42 u43 u44 u45 u46 u47 u48 u49 u50 u51 u52 u53 u54 u55 u56 u57 u58 u59 u60 u61 u62 u63 u64 u65 u66 u67 u68 u69 u70 u71 u72 u73 u74 u75 u76 u77 u78 u79 u80 u81 u82 u83 u84 u85 u86 u87 u88 u89 u90 u91 u92 u93 u94 u95 u96 u97 u98 u99 u100 u101 u102 u103 u104 u105 u106 u107 u108 u109 u110 u111 u112 u113 u114 u115 u116 u117 u118 u119 u120 u121 u122 u123 u124 u125 u126 u127 u128 u129 : Value) (w' : World), (Set7 w' w7.heap.size (.int .i64 T5.lf.1) (.slice i1 T5.lf.2.length im1) (.int .i64 T5.rt.1) (.slice i2 T5.rt.2.length im2) (.int .i64 T5.fr) (.int .i64 T5.to) (.slice i3 T5.l.length im3) ∧ RdSt w' T5 (.slice i1 T5.lf.2.length im1) (.slice i2 T5.rt.2.length im2) (.slice i3 T5.l.length im3) ∧ Below w.heap.size w w') → R ⟨#[u0, u1, .int .i64 x, .int .i64 n, .pointer (some ⟨w.heap.size, 0, none⟩), .pointer (some ⟨w.heap.size + 1, 0, none⟩), undef, undef, .bool false, .bool true, .bool q, .pointer (some ⟨w3.heap.size, 0, none⟩), u12, .pointer (some ⟨w4.heap.size, 0, none⟩), u14, .pointer (some ⟨w5.heap.size, 0, none⟩), u16, .pointer (some ⟨w6.heap.size, 0, none⟩), u18, .pointer (some ⟨w7.heap.size, 0, none⟩), .int .i64 E5, u21, u22, u23, u24, u25, u26, u27, u28, u29, u30, u31, u32, u33, u34, u35, u36, u37, u38, u39, u40, u41, u42, u43, u44, u45, u46, u47, u48, u49, u50, u51, u52, u53, u54, u55, u56, u57, u58, u59, u60, u61, u62, u63, u64, u65, u66, u67, u68, u69, u70, u71, u72, u73, u74, u75, u76, u77, u78, u79, u80, u81, u82, u83, u84, u85, u86, u87, u88, u89, u90, u91, u92, u93, u94, u95, u96, u97, u98, u99, u100, u101, u102, u103, u104, u105, u106, u107, u108, u109, u110, u111, u112, u113, u114, u115, u116, u117, u118, u119, u120, u121, u122, u123, u124, u125, u126, u127, u128, u129, .bool true, undef, undef, undef, undef, undef, undef, undef, undef, undef, undef, undef, undef, undef], []⟩ w') → R a' w', fun u0 u1 u12 u14 u16 u18 u21 u22 u23 u24 u25 u26 u27 u28 u29 u30 u31 u32 u33 u34 u35 u36 u37 u38 u39 u40 u41 u42 u43 u44 u45 u46 u47 u48 u49 u50 u51 u52 u53 u54 u55 u56 u57 u58 u59 u60 u61 u62 u63 u64 u65 u66 u67 u68 u69 u70 u71 u72 u73 u74 u75 u76 u77 u78 u79 u80 u81 u82 u83 u84 u85 u86 u87 u88 u89 u90 u91 u92 u93 u94 u95 u96 u97 u98 u99 u100 u101 u102 u103 u104 u105 u106 u107 u108 u109 u110 u111 u112 u113 u114 u115 u116 u117 u118 u119 u120 u121 u122 u123 u124 u125 u126 u127 u128 u129 w' h R hR => hR u0 u1 u12 u14 u16 u18 u21 u22 u23 u24 u25 u26 u27 u28 u29 u30 u31 u32 u33 u34 u35 u36 u37 u38 u39 u40 u41 u42 u43 u44 u45 u46 u47 u48 u49 u50 u51 u52 u53 u54 u55 u56 u57 u58 u59 u60 u61 u62 u63 u64 u65 u66 u67 u68 u69 u70 u71 u72 u73 u74 u75 u76 u77 u78 u79 u80 u81 u82 u83 u84 u85 u86 u87 u88 u89 u90 u91 u92 u93 u94 u95 u96 u97 u98 u99 u100 u101 u102 u103 u104 u105 u106 u107 u108 u109 u110 u111 u112 u113 u114 u115 u116 u117 u118 u119 u120 u121 u122 u123 u124 u125 u126 u127 u128 u129 w' h, fun a' w' h => h⟩
    refine wpList_at 12 K3 ?_ ?_
    · simp only [List.take_succ_cons, List.take_zero]
      clear HKe
      by_cases g3 : E4 = 0
      · have gb3 : (E4 == 0) = true := by simpa using g3
        have HG3 := Lib.hid g3
        clear g3
        go_wp2_with fail
        refine (KT4.out HG3.out _ _ _ _ HS3.out.2.1).mono ?_
        rintro e vg ⟨rfl, hb⟩
        have HL := Lib.hid (And.intro (HS3.out.1.below hb) (And.intro (keepSt hb HS3.out.2.1) (And.intro (HS3.out.2.2.1.below hb) (And.intro (keepSt hb HS3.out.2.2.2.1) (keepBelow HS3.out.2.2.2.2 hb)))))
        have HM := (And.intro HL.out.2.2.1 (And.intro HL.out.2.2.2.1 HL.out.2.2.2.2))
        clear HL
        go_wp2
        show K3 _ _
        exact HKi.out _ _ _ _ _ _ _ _ _ _ _ _ _ _ _ _ _ _ _ _ _ _ _ _ _ _ _ _ _ _ _ _ _ _ _ _ _ _ _ _ _ _ _ _ _ _ _ _ _ _ _ _ _ _ _ _ _ _ _ _ _ _ _ _ _ _ _ _ _ _ _ _ _ _ _ _ _ _ _ _ _ _ _ _ _ _ _ _ _ _ _ _ _ _ _ _ _ _ _ _ _ _ _ _ _ _ _ _ _ _ _ _ _ _ _ _ HM
      · have gb3 : (E4 != 0) = true := by simpa using g3
        clear g3
        have HM := Lib.hid ((And.intro HS3.out.2.2.1 (And.intro HS3.out.2.2.2.1 HS3.out.2.2.2.2)))
        go_wp2
        show K3 _ _
        exact HKi.out _ _ _ _ _ _ _ _ _ _ _ _ _ _ _ _ _ _ _ _ _ _ _ _ _ _ _ _ _ _ _ _ _ _ _ _ _ _ _ _ _ _ _ _ _ _ _ _ _ _ _ _ _ _ _ _ _ _ _ _ _ _ _ _ _ _ _ _ _ _ _ _ _ _ _ _ _ _ _ _ _ _ _ _ _ _ _ _ _ _ _ _ _ _ _ _ _ _ _ _ _ _ _ _ _ _ _ _ _ _ _ _ _ _ _ _ HM.out
    intro a' v3 hK
    refine HKe.out a' v3 hK _ ?_
    clear hK a' v3
    intro u0 u1 u12 u14 u16 u18 u21 u22 u23 u24 u25 u26 u27 u28 u29 u30 u31 u32 u33 u34 u35 u36 u37 u38 u39 u40 u41 u42 u43 u44 u45 u46 u47 u48 u49 u50 u51 u52 u53 u54 u55 u56 u57 u58 u59 u60 u61 u62 u63 u64 u65 u66 u67 u68 u69 u70 u71 u72 u73 u74 u75 u76 u77 u78 u79 u80 u81 u82 u83 u84 u85 u86 u87 u88 u89 u90 u91 u92 u93 u94 u95 u96 u97 u98 u99 u100 u101 u102 u103 u104 u105 u106 u107 u108 u109 u110 u111 u112 u113 u114 u115 u116 u117 u118 u119 u120 u121 u122 u123 u124 u125 u126 u127 u128 u129 v3 HS
    have HS4 := Lib.hid HS
    clear G0 G1 G2 G3 G4 G5 G6 hbe
    clear HS HS3 KT4 HKi HKe
    simp only [List.drop_succ_cons, List.drop_zero]
    obtain ⟨⟨⟨I0, I1, I2, I3, I4, I5, I6⟩, -⟩, -, hbe⟩ := HS4.out
    by_cases g4 : E5 = 0
    · have gb4 : (E5 == 0) = true := by simpa using g4
      have HG4 := Lib.hid g4
      clear g4
      go_wp2_with fail
      refine (KT5.out HG4.out _ _ _ _ HS4.out.2.1).mono ?_
      rintro e vg ⟨rfl, hb⟩
      have HL := Lib.hid (And.intro (HS4.out.1.below hb) (And.intro (keepSt hb HS4.out.2.1) (keepBelow HS4.out.2.2 hb)))
      have hbe := HL.out.2.2
      clear HL hb
      go_wp2
      go_ret
      exact ⟨rfl, hbe⟩
    · have gb4 : (E5 != 0) = true := by simpa using g4
      clear g4
      go_wp2
      go_ret
      exact ⟨rfl, hbe⟩
  | false =>
    obtain ⟨K0, HKi, HKe⟩ : ∃ K : Act → World → Prop, Hid (∀ (u0 u1 u12 u21 u22 u23 u24 u25 u26 u27 u28 u29 u30 u31 u32 u33 u34 u35 u36 u37 u38 u39 u40 u41 u42 u43 u44 u45 u46 u47 u48 u49 u50 u51 u52 u53 u54 u55 u56 u57 u58 u59 u60 u61 u62 u63 u64 u65 u66 u67 u68 u69 u70 u71 u72 u73 u74 u75 u76 u77 u78 u79 u80 u81 u82 u83 u84 u85 u86 u87 u88 u89 : Value) (w' : World), (Set7 w' w4.heap.size (.int .i64 T2.lf.1) (.slice d1 T2.lf.2.length dm1) (.int .i64 T2.rt.1) (.slice d2 T2.rt.2.length dm2) (.int .i64 T2.fr) (.int .i64 T2.to) (.slice d3 T2.l.length dm3) ∧ RdSt w' T2 (.slice d1 T2.lf.2.length dm1) (.slice d2 T2.rt.2.length dm2) (.slice d3 T2.l.length dm3) ∧ Set7 w' w5.heap.size (.int .i64 T3.lf.1) (.slice f1 T3.lf.2.length fm1) (.int .i64 T3.rt.1) (.slice f2 T3.rt.2.length fm2) (.int .i64 T3.fr) (.int .i64 T3.to) (.slice f3 T3.l.length fm3) ∧ RdSt w' T3 (.slice f1 T3.lf.2.length fm1) (.slice f2 T3.rt.2.length fm2) (.slice f3 T3.l.length fm3) ∧ Set7 w' w6.heap.size (.int .i64 T4.lf.1) (.slice g1 T4.lf.2.length gm1) (.int .i64 T4.rt.1) (.slice g2 T4.rt.2.length gm2) (.int .i64 T4.fr) (.int .i64 T4.to) (.slice g3 T4.l.length gm3) ∧ RdSt w' T4 (.slice g1 T4.lf.2.length gm1) (.slice g2 T4.rt.2.length gm2) (.slice g3 T4.l.length gm3) ∧ Set7 w' w7.heap.size (.int .i64 T5.lf.1) (.slice i1 T5.lf.2.length im1) (.int .i64 T5.rt.1) (.slice i2 T5.rt.2.length im2) (.int .i64 T5.fr) (.int .i64 T5.to) (.slice i3 T5.l.length im3) ∧ RdSt w' T5 (.slice i1 T5.lf.2.length im1) (.slice i2 T5.rt.2.length im2) (.slice i3 T5.l.length im3) ∧ Below w.heap.size w w') → K ⟨#[u0, u1, .int .i64 x, .int .i64 n, .pointer (some ⟨w.heap.size, 0, none⟩), .pointer (some ⟨w.heap.size + 1, 0, none⟩), undef, undef, .bool false, .bool false, .bool q, .pointer (some ⟨w3.heap.size, 0, none⟩), u12, .pointer (some ⟨w4.heap.size, 0, none⟩), .int .i64 E2, .pointer (some ⟨w5.heap.size, 0, none⟩), .int .i64 E3, .pointer (some ⟨w6.heap.size, 0, none⟩), .int .i64 E4, .pointer (some ⟨w7.heap.size, 0, none⟩), .int .i64 E5, u21, u22, u23, u24, u25, u26, u27, u28, u29, u30, u31, u32, u33, u34, u35, u36, u37, u38, u39, u40, u41, u42, u43, u44, u45, u46, u47, u48, u49, u50, u51, u52, u53, u54, u55, u56, u57, u58, u59, u60, u61, u62, u63, u64, u65, u66, u67, u68, u69, u70, u71, u72, u73, u74, u75, u76, u77, u78, u79, u80, u81, u82, u83, u84, u85, u86, u87, u88, u89, .bool true, undef, undef, undef, undef, undef, undef, undef, undef, undef, undef, undef, undef, undef, undef, undef, undef, undef, undef, undef, undef, undef, undef, undef, undef, undef, undef, undef, undef, undef, undef, undef, undef, undef, undef, undef, undef, undef, undef, undef, undef, undef, undef, undef, undef, undef, undef, undef, undef, undef, undef, undef, undef, undef], []⟩ w') ∧ Hid (∀ a' w', K a' w' → ∀ R : Act → World → Prop, (∀ (u0 u1 u12 u21 u22 u23 u24 u25 u26 u27 u28 u29 u30 u31 u32 u33 u34 u35 u36 u37 u38 u39 u40 u41 u42 u43 u44 u45 u46 u47 u48 u49 u50 u51 u52 u53 u54 u55 u56 u57 u58 u59 u60 u61 u62 u63 u64 u65 u66 u67 u68 u69 u70 u71 u72 u73 u74 u75 u76 u77 u78 u79 u80 u81 u82 u83 u84 u85 u86 u87 u88 u89 : Value) (w' : World), (Set7 w' w4.heap.size (.int .i64 T2.lf.1) (.slice d1 T2.lf.2.length dm1) (.int .i64 T2.rt.1) (.slice d2 T2.rt.2.length dm2) (.int .i64 T2.fr) (.int .i64 T2.to) (.slice d3 T2.l.length dm3) ∧ RdSt w' T2 (.slice d1 T2.lf.2.length dm1) (.slice d2 T2.rt.2.length dm2) (.slice d3 T2.l.length dm3) ∧ Set7 w' w5.heap.size (.int .i64 T3.lf.1) (.slice f1 T3.lf.2.length fm1) (.int .i64 T3.rt.1) (.slice f2 T3.rt.2.length fm2) (.int .i64 T3.fr) (.int .i64 T3.to) (.slice f3 T3.l.length fm3) ∧ RdSt w' T3 (.slice f1 T3.lf.2.length fm1) (.slice f2 T3.rt.2.length fm2) (.slice f3 T3.l.length fm3) ∧ Set7 w' w6.heap.size (.int .i64 T4.lf.1) (.slice g1 T4.lf.2.length gm1) (.int .i64 T4.rt.1) (.slice g2 T4.rt.2.length gm2) (.int .i64 T4.fr) (.int .i64 T4.to) (.slice g3 T4.l.length gm3) ∧ RdSt w' T4 (.slice g1 T4.lf.2.length gm1) (.slice g2 T4.rt.2.length gm2) (.slice g3 T4.l.length gm3) ∧ Set7 w' w7.heap.size (.int .i64 T5.lf.1) (.slice i1 T5.lf.2.length im1) (.int .i64 T5.rt.1) (.slice i2 T5.rt.2.length im2) (.int .i64 T5.fr) (.int .i64 T5.to) (.slice i3 T5.l.length im3) ∧ RdSt w' T5 (.slice i1 T5.lf.2.length im1) (.slice i2 T5.rt.2.length im2) (.slice i3 T5.l.length im3) ∧ Below w.heap.size w w') → R ⟨#[u0, u1, .int .i64 x, .int .i64 n, .pointer (some ⟨w.heap.size, 0, none⟩), .pointer (some ⟨w.heap.size + 1, 0, none⟩), undef, undef, .bool false, .bool false, .bool q, .pointer (some ⟨w3.heap.size, 0, none⟩), u12, .pointer (some ⟨w4.heap.size, 0, none⟩), .int .i64 E2, .pointer (some ⟨w5.heap.size, 0, none⟩), .int .i64 E3, .pointer (some ⟨w6.heap.size, 0, none⟩), .int .i64 E4, .pointer (some ⟨w7.heap.size, 0, none⟩), .int .i64 E5, u21, u22, u23, u24, u25, u26, u27, u28, u29, u30, u31, u32, u33, u34, u35, u36, u37, u38, u39, u40, u41, u42, u43, u44, u45, u46, u47, u48, u49, u50, u51, u52, u53, u54, u55, u56, u57, u58, u59, u60, u61, u62, u63, u64, u65, u66, u67, u68, u69, u70, u71, u72, u73, u74, u75, u76, u77, u78, u79, u80, u81, u82, u83, u84, u85, u86, u87, u88, u89, .bool true, undef, undef, undef, undef, undef, undef, undef, undef, undef, undef, undef, undef, undef, undef, undef, undef, undef, undef, undef, undef, undef, undef, undef, undef, undef, undef, undef, undef, undef, undef, undef, undef, undef, undef, undef, undef, undef, undef, undef, undef, undef, undef, undef, undef, undef, undef, undef, undef, undef, undef, undef, undef, undef], []⟩ w') → R a' w') :=
      ⟨fun a' w' => ∀ R : Act → World → Prop, (∀ (u0 u1 u12 u21 u22 u23 u24 u25 u26 u27 u28 u29 u30 u31 u32 u33 u34 u35 u36 u37 u38 u39 u40 u41 u42 u43 u44 u45 u46 u47 u48 u49 u50 u51 u52 u53 u54 u55 u56 u57 u58 u59 u60 u61 u62 u63 u64 u65 u66 u67 u68 u69 u70 u71 u72 u73 u74 u75 u76 u77 u78 u79 u80 u81 u82 u83 u84 u85 u86 u87 u88 u89 : Value) (w' : World), (Set7 w' w4.heap.size (.int .i64 T2.lf.1) (.slice d1 T2.lf.2.length dm1) (.int .i64 T2.rt.1) (.slice d2 T2.rt.2.length dm2) (.int .i64 T2.fr) (.int .i64 T2.to) (.slice d3 T2.l.length dm3) ∧ RdSt w' T2 (.slice d1 T2.lf.2.length dm1) (.slice d2 T2.rt.2.length dm2) (.slice d3 T2.l.length dm3) ∧ Set7 w' w5.heap.size (.int .i64 T3.lf.1) (.slice f1 T3.lf.2.length fm1) (.int .i64 T3.rt.1) (.slice f2 T3.rt.2.length fm2) (.int .i64 T3.fr) (.int .i64 T3.to) (.slice f3 T3.l.length fm3) ∧ RdSt w' T3 (.slice f1 T3.lf.2.length fm1) (.slice f2 T3.rt.2.length fm2) (.slice f3 T3.l.length fm3) ∧ Set7 w' w6.heap.size (.int .i64 T4.lf.1) (.slice g1 T4.lf.2.length gm1) (.int .i64 T4.rt.1) (.slice g2 T4.rt.2.length gm2) (.int .i64 T4.fr) (.int .i64 T4.to) (.slice g3 T4.l.length gm3) ∧ RdSt w' T4 (.slice g1 T4.lf.2.length gm1) (.slice g2 T4.rt.2.length gm2) (.slice g3 T4.l.length gm3) ∧ Set7 w' w7.heap.size (.int .i64 T5.lf.1) (.slice i1 T5.lf.2.length im1) (.int .i64 T5.rt.1) (.slice i2 T5.rt.2.length im2) (.int .i64 T5.fr) (.int .i64 T5.to) (.slice i3 T5.l.length im3) ∧ RdSt w' T5 (.slice i1 T5.lf.2.length im1) (.slice i2 T5.rt.2.length im2) (.slice i3 T5.l.length im3) ∧ Below w.heap.size w w') → R ⟨#[u0, u1, .int .i64 x, .int .i64 n, .pointer (some ⟨w.heap.size, 0, none⟩), .pointer (some ⟨w.heap.size + 1, 0, none⟩), undef, undef, .bool false, .bool false, .bool q, .pointer (some ⟨w3.heap.size, 0, none⟩), u12, .pointer (some ⟨w4.heap.size, 0, none⟩), .int .i64 E2, .pointer (some ⟨w5.heap.size, 0, none⟩), .int .i64 E3, .pointer (some ⟨w6.heap.size, 0, none⟩), .int .i64 E4, .pointer (some ⟨w7.heap.size, 0, none⟩), .int .i64 E5, u21, u22, u23, u24, u25, u26, u27, u28, u29, u30, u31, u32, u33, u34, u35, u36, u37, u38, u39, u40, u41, u42, u43, u44, u45, u46, u47, u48, u49, u50, u51, u52, u53, u54, u55, u56, u57, u58, u59, u60, u61, u62, u63, u64, u65, u66, u67, u68, u69, u70, u71, u72, u73, u74, u75, u76, u77, u78, u79, u80, u81, u82, u83, u84, u85, u86, u87, u88, u89, .bool true, undef, undef, undef, undef, undef, undef, undef, undef, undef, undef, undef, undef, undef, undef, undef, undef, undef, undef, undef, undef, undef, undef, undef, undef, undef, undef, undef, undef, undef, undef, undef, undef, undef, undef, undef, undef, undef, undef, undef, undef, undef, undef, undef, undef, undef, undef, undef, undef, undef, undef, undef, undef, undef], []⟩ w') → R a' w', fun u0 u1 u12 u21 u22 u23 u24 u25 u26 u27 u28 u29 u30 u31 u32 u33 u34 u35 u36 u37 u38 u39 u40 u41 u42 u43 u44 u45 u46 u47 u48 u49 u50 u51 u52 u53 u54 u55 u56 u57 u58 u59 u60 u61 u62 u63 u64 u65 u66 u67 u68 u69 u70 u71 u72 u73 u74 u75 u76 u77 u78 u79 u80 u81 u82 u83 u84 u85 u86 u87 u88 u89 w' h R hR => hR u0 u1 u12 u21 u22 u23 u24 u25 u26 u27 u28 u29 u30 u31 u32 u33 u34 u35 u36 u37 u38 u39 u40 u41 u42 u43 u44 u45 u46 u47 u48 u49 u50 u51 u52 u53 u54 u55 u56 u57 u58 u59 u60 u61 u62 u63 u64 u65 u66 u67 u68 u69 u70 u71 u72 u73 u74 u75 u76 u77 u78 u79 u80 u81 u82 u83 u84 u85 u86 u87 u88 u89 w' h, fun a' w' h => h⟩
    refine wpList_at 13 K0 ?_ ?_
    · simp only [List.take_succ_cons, List.take_zero]
      clear HKe
      by_cases g0 : E1 = 0
      · have gb0 : (E1 == 0) = true := by simpa using g0
        have HG0 := Lib.hid g0
        clear g0
        go_wp2_with fail
        refine (KT1.out HG0.out _ _ _ _ HS0.out.2.1).mono ?_
        rintro e vg ⟨rfl, hb⟩
        have HL := Lib.hid (And.intro (HS0.out.1.below hb) (And.intro (keepSt hb HS0.out.2.1) (And.intro (HS0.out.2.2.1.below hb) (And.intro (keepSt hb HS0.out.2.2.2.1) (And.intro (HS0.out.2.2.2.2.1.below hb) (And.intro (keepSt hb HS0.out.2.2.2.2.2.1) (And.intro (HS0.out.2.2.2.2.2.2.1.below hb) (And.intro (keepSt hb HS0.out.2.2.2.2.2.2.2.1) (And.intro (HS0.out.2.2.2.2.2.2.2.2.1.below hb) (And.intro (keepSt hb HS0.out.2.2.2.2.2.2.2.2.2.1) (keepBelow HS0.out.2.2.2.2.2.2.2.2.2.2 hb)))))))))))
        have HM := (And.intro HL.out.2.2.1 (And.intro HL.out.2.2.2.1 (And.intro HL.out.2.2.2.2.1 (And.intro HL.out.2.2.2.2.2.1 (And.intro HL.out.2.2.2.2.2.2.1 (And.intro HL.out.2.2.2.2.2.2.2.1 (And.intro HL.out.2.2.2.2.2.2.2.2.1 (And.intro HL.out.2.2.2.2.2.2.2.2.2.1 HL.out.2.2.2.2.2.2.2.2.2.2))))))))
        clear HL
        go_wp2
        show K0 _ _
        exact HKi.out _ _ _ _ _ _ _ _ _ _ _ _ _ _ _ _ _ _ _ _ _ _ _ _ _ _ _ _ _ _ _ _ _ _ _ _ _ _ _ _ _ _ _ _ _ _ _ _ _ _ _ _ _ _ _ _ _ _ _ _ _ _ _ _ _ _ _ _ _ _ _ _ _ HM
      · have gb0 : (E1 != 0) = true := by simpa using g0
        clear g0
        have HM := Lib.hid ((And.intro HS0.out.2.2.1 (And.intro HS0.out.2.2.2.1 (And.intro HS0.out.2.2.2.2.1 (And.intro HS0.out.2.2.2.2.2.1 (And.intro HS0.out.2.2.2.2.2.2.1 (And.intro HS0.out.2.2.2.2.2.2.2.1 (And.intro HS0.out.2.2.2.2.2.2.2.2.1 (And.intro HS0.out.2.2.2.2.2.2.2.2.2.1 HS0.out.2.2.2.2.2.2.2.2.2.2)))))))))
        go_wp2
        show K0 _ _
        exact HKi.out _ _ _ _ _ _ _ _ _ _ _ _ _ _ _ _ _ _ _ _ _ _ _ _ _ _ _ _ _ _ _ _ _ _ _ _ _ _ _ _ _ _ _ _ _ _ _ _ _ _ _ _ _ _ _ _ _ _ _ _ _ _ _ _ _ _ _ _ _ _ _ _ _ HM.out
    intro a' v0 hK
    refine HKe.out a' v0 hK _ ?_
    clear hK a' v0
    intro u0 u1 u12 u21 u22 u23 u24 u25 u26 u27 u28 u29 u30 u31 u32 u33 u34 u35 u36 u37 u38 u39 u40 u41 u42 u43 u44 u45 u46 u47 u48 u49 u50 u51 u52 u53 u54 u55 u56 u57 u58 u59 u60 u61 u62 u63 u64 u65 u66 u67 u68 u69 u70 u71 u72 u73 u74 u75 u76 u77 u78 u79 u80 u81 u82 u83 u84 u85 u86 u87 u88 u89 v0 HS
    have HS1 := Lib.hid HS
    clear C0 C1 C2 C3 C4 C5 C6 hbe
    clear HS HS0 KT1 HKi HKe
    simp only [List.drop_succ_cons, List.drop_zero]
    obtain ⟨⟨⟨D0, D1, D2, D3, D4, D5, D6⟩, -⟩, -, -, -, -, -, -, -, hbe⟩ := HS1.out
    obtain ⟨K1, HKi, HKe⟩ : ∃ K : Act → World → Prop, Hid (∀ (u0 u1 u12 u14 u21 u22 u23 u24 u25 u26 u27 u28 u29 u30 u31 u32 u33 u34 u35 u36 u37 u38 u39 u40 u41 u42 u43 u44 u45 u46 u47 u48 u49 u50 u51 u52 u53 u54 u55 u56 u57 u58 u59 u60 u61 u62 u63 u64 u65 u66 u67 u68 u69 u70 u71 u72 u73 u74 u75 u76 u77 u78 u79 u80 u81 u82 u83 u84 u85 u86 u87 u88 u89 u90 u91 u92 u93 u94 u95 u96 u97 u98 u99 u100 u101 u102 : Value) (w' : World), (Set7 w' w5.heap.size (.int .i64 T3.lf.1) (.slice f1 T3.lf.2.length fm1) (.int .i64 T3.rt.1) (.slice f2 T3.rt.2.length fm2) (.int .i64 T3.fr) (.int .i64 T3.to) (.slice f3 T3.l.length fm3) ∧ RdSt w' T3 (.slice f1 T3.lf.2.length fm1) (.slice f2 T3.rt.2.length fm2) (.slice f3 T3.l.length fm3) ∧ Set7 w' w6.heap.size (.int .i64 T4.lf.1) (.slice g1 T4.lf.2.length gm1) (.int .i64 T4.rt.1) (.slice g2 T4.rt.2.length gm2) (.int .i64 T4.fr) (.int .i64 T4.to) (.slice g3 T4.l.length gm3) ∧ RdSt w' T4 (.slice g1 T4.lf.2.length gm1) (.slice g2 T4.rt.2.length gm2) (.slice g3 T4.l.length gm3) ∧ Set7 w' w7.heap.size (.int .i64 T5.lf.1) (.slice i1 T5.lf.2.length im1) (.int .i64 T5.rt.1) (.slice i2 T5.rt.2.length im2) (.int .i64 T5.fr) (.int .i64 T5.to) (.slice i3 T5.l.length im3) ∧ RdSt w' T5 (.slice i1 T5.lf.2.length im1) (.slice i2 T5.rt.2.length im2) (.slice i3 T5.l.length im3) ∧ Below w.heap.size w w') → K ⟨#[u0, u1, .int .i64 x, .int .i64 n, .pointer (some ⟨w.heap.size, 0, none⟩), .pointer (some ⟨w.heap.size + 1, 0, none⟩), undef, undef, .bool false, .bool false, .bool q, .pointer (some ⟨w3.heap.size, 0, none⟩), u12, .pointer (some ⟨w4.heap.size, 0, none⟩), u14, .pointer (some ⟨w5.heap.size, 0, none⟩), .int .i64 E3, .pointer (some ⟨w6.heap.size, 0, none⟩), .int .i64 E4, .pointer (some ⟨w7.heap.size, 0, none⟩), .int .i64 E5, u21, u22, u23, u24, u25, u26, u27, u28, u29, u30, u31, u32, u33, u34, u35, u36, u37, u38, u39, u40, u41, u42, u43, u44, u45, u46, u47, u48, u49, u50, u51, u52, u53, u54, u55, u56, u57, u58, u59, u60, u61, u62, u63, u64, u65, u66, u67, u68, u69, u70, u71, u72, u73, u74, u75, u76, u77, u78, u79, u80, u81, u82, u83, u84, u85, u86, u87, u88, u89, u90, u91, u92, u93, u94, u95, u96, u97, u98, u99, u100, u101, u102, .bool true, undef, undef, undef, undef, undef, undef, undef, undef, undef, undef, undef, undef, undef, undef, undef, undef, undef, undef, undef, undef, undef, undef, undef, undef, undef, undef, undef, undef, undef, undef, undef, undef, undef, undef, undef, undef, undef, undef, undef, undef], []⟩ w') ∧ Hid (∀ a' w', K a' w' → ∀ R : Act → World → Prop, (∀ (u0 u1 u12 u14 u21 u22 u23 u24 u25 u26 u27 u28 u29 u30 u31 u32 u33 u34 u35 u36 u37 u38 u39 u40 u41 u42 u43 u44 u45 u46 u47 u48 u49 u50 u51 u52 u53 u54 u55 u56 u57 u58 u59 u60 u61 u62 u63 u64 u65 u66 u67 u68 u69 u70 u71 u72 u73 u74 u75 u76 u77 u78 u79 u80 u81 u82 u83 u84 u85 u86 u87 u88 u89 u90 u91 u92 u93 u94 u95 u96 u97 u98 u99 u100 u101 u102 : Value) (w' : World), (Set7 w' w5.heap.size (.int .i64 T3.lf.1) (.slice f1 T3.lf.2.length fm1) (.int .i64 T3.rt.1) (.slice f2 T3.rt.2.length fm2) (.int .i64 T3.fr) (.int .i64 T3.to) (.slice f3 T3.l.length fm3) ∧ RdSt w' T3 (.slice f1 T3.lf.2.length fm1) (.slice f2 T3.rt.2.length fm2) (.slice f3 T3.l.length fm3) ∧ Set7 w' w6.heap.size (.int .i64 T4.lf.1) (.slice g1 T4.lf.2.length gm1) (.int .i64 T4.rt.1) (.slice g2 T4.rt.2.length gm2) (.int .i64 T4.fr) (.int .i64 T4.to) (.slice g3 T4.l.length gm3) ∧ RdSt w' T4 (.slice g1 T4.lf.2.length gm1) (.slice g2 T4.rt.2.length gm2) (.slice g3 T4.l.length gm3) ∧ Set7 w' w7.heap.size (.int .i64 T5.lf.1) (.slice i1 T5.lf.2.length im1) (.int .i64 T5.rt.1) (.slice i2 T5.rt.2.length im2) (.int .i64 T5.fr) (.int .i64 T5.to) (.slice i3 T5.l.length im3) ∧ RdSt w' T5 (.slice i1 T5.lf.2.length im1) (.slice i2 T5.rt.2.length im2) (.slice i3 T5.l.length im3) ∧ Below w.heap.size w w') → R ⟨#[u0, u1, .int .i64 x, .int .i64 n, .pointer (some ⟨w.heap.size, 0, none⟩), .pointer (some ⟨w.heap.size + 1, 0, none⟩), undef, undef, .bool false, .bool false, .bool q, .pointer (some ⟨w3.heap.size, 0, none⟩), u12, .pointer (some ⟨w4.heap.size, 0, none⟩), u14, .pointer (some ⟨w5.heap.size, 0, none⟩), .int .i64 E3, .pointer (some ⟨w6.heap.size, 0, none⟩), .int .i64 E4, .pointer (some ⟨w7.heap.size, 0, none⟩), .int .i64 E5, u21, u22, u23, u24, u25, u26, u27, u28, u29, u30, u31, u32, u33, u34, u35, u36, u37, u38, u39, u40, u41, u42, u43, u44, u45, u46, u47, u48, u49, u50, u51, u52, u53, u54, u55, u56, u57, u58, u59, u60, u61, u62, u63, u64, u65, u66, u67, u68, u69, u70, u71, u72, u73, u74, u75, u76, u77, u78, u79, u80, u81, u82, u83, u84, u85, u86, u87, u88, u89, u90, u91, u92, u93, u94, u95, u96, u97, u98, u99, u100, u101, u102, .bool true, undef, undef, undef, undef, undef, undef, undef, undef, undef, undef, undef, undef, undef, undef, undef, undef, undef, undef, undef, undef, undef, undef, undef, undef, undef, undef, undef, undef, undef, undef, undef, undef, undef, undef, undef, undef, undef, undef, undef, undef], []⟩ w') → R a' w') :=
      ⟨fun a' w' => ∀ R : Act → World → Prop, (∀ (u0 u1 u12 u14 u21 u22 u23 u24 u25 u26 u27 u28 u29 u30 u31 u32 u33 u34 u35 u36 u37 u38 u39 u40 u41 u42 u43 u44 u45 u46 u47 u48 u49 u50 u51 u52 u53 u54 u55 u56 u57 u58 u59 u60 u61 u62 u63 u64 u65 u66 u67 u68 u69 u70 u71 u72 u73 u74 u75 u76 u77 u78 u79 u80 u81 u82 u83 u84 u85 u86 u87 u88 u89 u90 u91 u92 u93 u94 u95 u96 u97 u98 u99 u100 u101 u102 : Value) (w' : World), (Set7 w' w5.heap.size (.int .i64 T3.lf.1) (.slice f1 T3.lf.2.length fm1) (.int .i64 T3.rt.1) (.slice f2 T3.rt.2.length fm2) (.int .i64 T3.fr) (.int .i64 T3.to) (.slice f3 T3.l.length fm3) ∧ RdSt w' T3 (.slice f1 T3.lf.2.length fm1) (.slice f2 T3.rt.2.length fm2) (.slice f3 T3.l.length fm3) ∧ Set7 w' w6.heap.size (.int .i64 T4.lf.1) (.slice g1 T4.lf.2.length gm1) (.int .i64 T4.rt.1) (.slice g2 T4.rt.2.length gm2) (.int .i64 T4.fr) (.int .i64 T4.to) (.slice g3 T4.l.length gm3) ∧ RdSt w' T4 (.slice g1 T4.lf.2.length gm1) (.slice g2 T4.rt.2.length gm2) (.slice g3 T4.l.length gm3) ∧ Set7 w' w7.heap.size (.int .i64 T5.lf.1) (.slice i1 T5.lf.2.length im1) (.int .i64 T5.rt.1) (.slice i2 T5.rt.2.length im2) (.int .i64 T5.fr) (.int .i64 T5.to) (.slice i3 T5.l.length im3) ∧ RdSt w' T5 (.slice i1 T5.lf.2.length im1) (.slice i2 T5.rt.2.length im2) (.slice i3 T5.l.length im3) ∧ Below w.heap.size w w') → R ⟨#[u0, u1, .int .i64 x, .int .i64 n, .pointer (some ⟨w.heap.size, 0, none⟩), .pointer (some ⟨w.heap.size + 1, 0, none⟩), undef, undef, .bool false, .bool false, .bool q, .pointer (some ⟨w3.heap.size, 0, none⟩), u12, .pointer (some ⟨w4.heap.size, 0, none⟩), u14, .pointer (some ⟨w5.heap.size, 0, none⟩), .int .i64 E3, .pointer (some ⟨w6.heap.size, 0, none⟩), .int .i64 E4, .pointer (some ⟨w7.heap.size, 0, none⟩), .int .i64 E5, u21, u22, u23, u24, u25, u26, u27, u28, u29, u30, u31, u32, u33, u34, u35, u36, u37, u38, u39, u40, u41, u42, u43, u44, u45, u46, u47, u48, u49, u50, u51, u52, u53, u54, u55, u56, u57, u58, u59, u60, u61, u62, u63, u64, u65, u66, u67, u68, u69, u70, u71, u72, u73, u74, u75, u76, u77, u78, u79, u80, u81, u82, u83, u84, u85, u86, u87, u88, u89, u90, u91, u92, u93, u94, u95, u96, u97, u98, u99, u100, u101, u102, .bool true, undef, undef, undef, undef, undef, undef, undef, undef, undef, undef, undef, undef, undef, undef, undef, undef, undef, undef, undef, undef, undef, undef, undef, undef, undef, undef, undef, undef, undef, undef, undef, undef, undef, undef, undef, undef, undef, undef, undef, undef], []⟩ w') → R a' w', fun u0 u1 u12 u14 u21 u22 u23 u24 u25 u26 u27 u28 u29 u30 u31 u32 u33 u34 u35 u36 u37 u38 u39 u40 u41 u42 u43 u44 u45 u46 u47 u48 u49 u50 u51 u52 u53 u54 u55 u56 u57 u58 u59 u60 u61 u62 u63 u64 u65 u66 u67 u68 u69 u70 u71 u72 u73 u74 u75 u76 u77 u78 u79 u80 u81 u82 u83 u84 u85 u86 u87 u88 u89 u90 u91 u92 u93 u94 u95 u96 u97 u98 u99 u100 u101 u102 w' h R hR => hR u0 u1 u12 u14 u21 u22 u23 u24 u25 u26 u27 u28 u29 u30 u31 u32 u33 u34 u35 u36 u37 u38 u39 u40 u41 u42 u43 u44 u45 u46 u47 u48 u49 u50 u51 u52 u53 u54 u55 u56 u57 u58 u59 u60 u61 u62 u63 u64 u65 u66 u67 u68 u69 u70 u71 u72 u73 u74 u75 u76 u77 u78 u79 u80 u81 u82 u83 u84 u85 u86 u87 u88 u89 u90 u91 u92 u93 u94 u95 u96 u97 u98 u99 u100 u101 u102 w' h, fun a' w' h => h⟩
    refine wpList_at 13 K1 ?_ ?_
    · simp only [List.take_succ_cons, List.take_zero]
      clear HKe
      by_cases g1 : E2 = 0
      · have gb1 : (E2 == 0) = true := by simpa using g1
        have HG1 := Lib.hid g1
        clear g1
        go_wp2_with fail
        refine (KT2.out HG1.out _ _ _ _ HS1.out.2.1).mono ?_
        rintro e vg ⟨rfl, hb⟩
        have HL := Lib.hid (And.intro (HS1.out.1.below hb) (And.intro (keepSt hb HS1.out.2.1) (And.intro (HS1.out.2.2.1.below hb) (And.intro (keepSt hb HS1.out.2.2.2.1) (And.intro (HS1.out.2.2.2.2.1.below hb) (And.intro (keepSt hb HS1.out.2.2.2.2.2.1) (And.intro (HS1.out.2.2.2.2.2.2.1.below hb) (And.intro (keepSt hb HS1.out.2.2.2.2.2.2.2.1) (keepBelow HS1.out.2.2.2.2.2.2.2.2 hb)))))))))
        have HM := (And.intro HL.out.2.2.1 (And.intro HL.out.2.2.2.1 (And.intro HL.out.2.2.2.2.1 (And.intro HL.out.2.2.2.2.2.1 (And.intro HL.out.2.2.2.2.2.2.1 (And.intro HL.out.2.2.2.2.2.2.2.1 HL.out.2.2.2.2.2.2.2.2))))))
        clear HL
        go_wp2
        show K1 _ _
        exact HKi.out _ _ _ _ _ _ _ _ _ _ _ _ _ _ _ _ _ _ _ _ _ _ _ _ _ _ _ _ _ _ _ _ _ _ _ _ _ _ _ _ _ _ _ _ _ _ _ _ _ _ _ _ _ _ _ _ _ _ _ _ _ _ _ _ _ _ _ _ _ _ _ _ _ _ _ _ _ _ _ _ _ _ _ _ _ _ _ HM
      · have gb1 : (E2 != 0) = true := by simpa using g1
        clear g1
        have HM := Lib.hid ((And.intro HS1.out.2.2.1 (And.intro HS1.out.2.2.2.1 (And.intro HS1.out.2.2.2.2.1 (And.intro HS1.out.2.2.2.2.2.1 (And.intro HS1.out.2.2.2.2.2.2.1 (And.intro HS1.out.2.2.2.2.2.2.2.1 HS1.out.2.2.2.2.2.2.2.2)))))))
        go_wp2
        show K1 _ _
        exact HKi.out _ _ _ _ _ _ _ _ _ _ _ _ _ _ _ _ _ _ _ _ _ _ _ _ _ _ _ _ _ _ _ _ _ _ _ _ _ _ _ _ _ _ _ _ _ _ _ _ _ _ _ _ _ _ _ _ _ _ _ _ _ _ _ _ _ _ _ _ _ _ _ _ _ _ _ _ _ _ _ _ _ _ _ _ _ _ _ HM.out
    intro a' v1 hK
    refine HKe.out a' v1 hK _ ?_
    clear hK a' v1
    intro u0 u1 u12 u14 u21 u22 u23 u24 u25 u26 u27 u28 u29 u30 u31 u32 u33 u34 u35 u36 u37 u38 u39 u40 u41 u42 u43 u44 u45 u46 u47 u48 u49 u50 u51 u52 u53 u54 u55 u56 u57 u58 u59 u60 u61 u62 u63 u64 u65 u66 u67 u68 u69 u70 u71 u72 u73 u74 u75 u76 u77 u78 u79 u80 u81 u82 u83 u84 u85 u86 u87 u88 u89 u90 u91 u92 u93 u94 u95 u96 u97 u98 u99 u100 u101 u102 v1 HS
    have HS2 := Lib.hid HS
    clear D0 D1 D2 D3 D4 D5 D6 hbe
    clear HS HS1 KT2 HKi HKe
    simp only [List.drop_succ_cons, List.drop_zero]
    obtain ⟨⟨⟨F0, F1, F2, F3, F4, F5, F6⟩, -⟩, -, -, -, -, -, hbe⟩ := HS2.out
    obtain ⟨K2, HKi, HKe⟩ : ∃ K : Act → World → Prop, Hid (∀ (u0 u1 u12 u14 u16 u21 u22 u23 u24 u25 u26 u27 u28 u29 u30 u31 u32 u33 u34 u35 u36 u37 u38 u39 u40 u41 u42 u43 u44 u45 u46 u47 u48 u49 u50 u51 u52 u53 u54 u55 u56 u57 u58 u59 u60 u61 u62 u63 u64 u65 u66 u67 u68 u69 u70 u71 u72 u73 u74 u75 u76 u77 u78 u79 u80 u81 u82 u83 u84 u85 u86 u87 u88 u89 u90 u91 u92 u93 u94 u95 u96 u97 u98 u99 u100 u101 u102 u103 u104 u105 u106 u107 u108 u109 u110 u111 u112 u113 u114 u115 u116 u117 : Value) (w' : World), (Set7 w' w6.heap.size (.int .i64 T4.lf.1) (.slice g1 T4.lf.2.length gm1) (.int .i64 T4.rt.1) (.slice g2 T4.rt.2.length gm2) (.int .i64 T4.fr) (.int .i64 T4.to) (.slice g3 T4.l.length gm3) ∧ RdSt w' T4 (.slice g1 T4.lf.2.length gm1) (.slice g2 T4.rt.2.length gm2) (.slice g3 T4.l.length gm3) ∧ Set7 w' w7.heap.size (.int .i64 T5.lf.1) (.slice i1 T5.lf.2.length im1) (.int .i64 T5.rt.1) (.slice i2 T5.rt.2.length im2) (.int .i64 T5.fr) (.int .i64 T5.to) (.slice i3 T5.l.length im3) ∧ RdSt w' T5 (.slice i1 T5.lf.2.length im1) (.slice i2 T5.rt.2.length im2) (.slice i3 T5.l.length im3) ∧ Below w.heap.size w w') → K ⟨#[u0, u1, .int .i64 x, .int .i64 n, .pointer (some ⟨w.heap.size, 0, none⟩), .pointer (some ⟨w.heap.size + 1, 0, none⟩), undef, undef, .bool false, .bool false, .bool q, .pointer (some ⟨w3.heap.size, 0, none⟩), u12, .pointer (some ⟨w4.heap.size, 0, none⟩), u14, .pointer (some ⟨w5.heap.size, 0, none⟩), u16, .pointer (some ⟨w6.heap.size, 0, none⟩), .int .i64 E4, .pointer (some ⟨w7.heap.size, 0, none⟩), .int .i64 E5, u21, u22, u23, u24, u25, u26, u27, u28, u29, u30, u31, u32, u33, u34, u35, u36, u37, u38, u39, u40, u41, u42, u43, u44, u45, u46, u47, u48, u49, u50, u51, u52, u53, u54, u55, u56, u57, u58, u59, u60, u61, u62, u63, u64, u65, u66, u67, u68, u69, u70, u71, u72, u73, u74, u75, u76, u77, u78, u79, u80, u81, u82, u83, u84, u85, u86, u87, u88, u89, u90, u91, u92, u93, u94, u95, u96, u97, u98, u99, u100, u101, u102, u103, u104, u105, u106, u107, u108, u109, u110, u111, u112, u113, u114, u115, u116, u117, .bool true, undef, undef, undef, undef, undef, undef, undef, undef, undef, undef, undef, undef, undef, undef, undef, undef, undef, undef, undef, undef, undef, undef, undef, undef, undef], []⟩ w') ∧ Hid (∀ a' w', K a' w' → ∀ R : Act → World → Prop, (∀ (u0 u1 u12 u14 u16 u21 u22 u23 u24 u25 u26 u27 u28 u29 u30 u31 u32 u33 u34 u35 u36 u37 u38 u39 u40 u41 u42 u43 u44 u45 u46 u47 u48 u49 u50 u51 u52 u53 u54 u55 u56 u57 u58 u59 u60 u61 u62 u63 u64 u65 u66 u67 u68 u69 u70 u71 u72 u73 u74 u75 u76 u77 u78 u79 u80 u81 u82 u83 u84 u85 u86 u87 u88 u89 u90 u91 u92 u93 u94 u95 u96 u97 u98 u99 u100 u101 u102 u103 u104 u105 u106 u107 u108 u109 u110 u111 u112 u113 u114 u115 u116 u117 : Value) (w' : World), (Set7 w' w6.heap.size (.int .i64 T4.lf.1) (.slice g1 T4.lf.2.length gm1) (.int .i64 T4.rt.1) (.slice g2 T4.rt.2.length gm2) (.int .i64 T4.fr) (.int .i64 T4.to) (.slice g3 T4.l.length gm3) ∧ RdSt w' T4 (.slice g1 T4.lf.2.length gm1) (.slice g2 T4.rt.2.length gm2) (.slice g3 T4.l.length gm3) ∧ Set7 w' w7.heap.size (.int .i64 T5.lf.1) (.slice i1 T5.lf.2.length im1) (.int .i64 T5.rt.1) (.slice i2 T5.rt.2.length im2) (.int .i64 T5.fr) (.int .i64 T5.to) (.slice i3 T5.l.length im3) ∧ RdSt w' T5 (.slice i1 T5.lf.2.length im1) (.slice i2 T5.rt.2.length im2) (.slice i3 T5.l.length im3) ∧ Below w.heap.size w w') → R ⟨#[u0, u1, .int .i64 x, .int .i64 n, .pointer (some ⟨w.heap.size, 0, none⟩), .pointer (some ⟨w.heap.size + 1, 0, none⟩), undef, undef, .bool false, .bool false, .bool q, .pointer (some ⟨w3.heap.size, 0, none⟩), u12, .pointer (some ⟨w4.heap.size, 0, none⟩), u14, .pointer (some ⟨w5.heap.size, 0, none⟩), u16, .pointer (some ⟨w6.heap.size, 0, none⟩), .int .i64 E4, .pointer (some ⟨w7.heap.size, 0, none⟩), .int .i64 E5, u21, u22, u23, u24, u25, u26, u27, u28, u29, u30, u31, u32, u33, u34, u35, u36, u37, u38, u39, u40, u41, u42, u43, u44, u45, u46, u47, u48, u49, u50, u51, u52, u53, u54, u55, u56, u57, u58, u59, u60, u61, u62, u63, u64, u65, u66, u67, u68, u69, u70, u71, u72, u73, u74, u75, u76, u77, u78, u79, u80, u81, u82, u83, u84, u85, u86, u87, u88, u89, u90, u91, u92, u93, u94, u95, u96, u97, u98, u99, u100, u101, u102, u103, u104, u105, u106, u107, u108, u109, u110, u111, u112, u113, u114, u115, u116, u117, .bool true, undef, undef, undef, undef, undef, undef, undef, undef, undef, undef, undef, undef, undef, undef, undef, undef, undef, undef, undef, undef, undef, undef, undef, undef, undef], []⟩ w') → R a' w') :=
      ⟨fun a' w' => ∀ R : Act → World → Prop, (∀ (u0 u1 u12 u14 u16 u21 u22 u23 u24 u25 u26 u27 u28 u29 u30 u31 u32 u33 u34 u35 u36 u37 u38 u39 u40 u41 u42 u43 u44 u45 u46 u47 u48 u49 u50 u51 u52 u53 u54 u55 u56 u57 u58 u59 u60 u61 u62 u63 u64 u65 u66 u67 u68 u69 u70 u71 u72 u73 u74 u75 u76 u77 u78 u79 u80 u81 u82 u83 u84 u85 u86 u87 u88 u89 u90 u91 u92 u93 u94 u95 u96 u97 u98 u99 u100 u101 u102 u103 u104 u105 u106 u107 u108 u109 u110 u111 u112 u113 u114 u115 u116 u117 : Value) (w' : World), (Set7 w' w6.heap.size (.int .i64 T4.lf.1) (.slice g1 T4.lf.2.length gm1) (.int .i64 T4.rt.1) (.slice g2 T4.rt.2.length gm2) (.int .i64 T4.fr) (.int .i64 T4.to) (.slice g3 T4.l.length gm3) ∧ RdSt w' T4 (.slice g1 T4.lf.2.length gm1) (.slice g2 T4.rt.2.length gm2) (.slice g3 T4.l.length gm3) ∧ Set7 w' w7.heap.size (.int .i64 T5.lf.1) (.slice i1 T5.lf.2.length im1) (.int .i64 T5.rt.1) (.slice i2 T5.rt.2.length im2) (.int .i64 T5.fr) (.int .i64 T5.to) (.slice i3 T5.l.length im3) ∧ RdSt w' T5 (.slice i1 T5.lf.2.length im1) (.slice i2 T5.rt.2.length im2) (.slice i3 T5.l.length im3) ∧ Below w.heap.size w w') → R ⟨#[u0, u1, .int .i64 x, .int .i64 n, .pointer (some ⟨w.heap.size, 0, none⟩), .pointer (some ⟨w.heap.size + 1, 0, none⟩), undef, undef, .bool false, .bool false, .bool q, .pointer (some ⟨w3.heap.size, 0, none⟩), u12, .pointer (some ⟨w4.heap.size, 0, none⟩), u14, .pointer (some ⟨w5.heap.size, 0, none⟩), u16, .pointer (some ⟨w6.heap.size, 0, none⟩), .int .i64 E4, .pointer (some ⟨w7.heap.size, 0, none⟩), .int .i64 E5, u21, u22, u23, u24, u25, u26, u27, u28, u29, u30, u31, u32, u33, u34, u35, u36, u37, u38, u39, u40, u41, u42, u43, u44, u45, u46, u47, u48, u49, u50, u51, u52, u53, u54, u55, u56, u57, u58, u59, u60, u61, u62, u63, u64, u65, u66, u67, u68, u69, u70, u71, u72, u73, u74, u75, u76, u77, u78, u79, u80, u81, u82, u83, u84, u85, u86, u87, u88, u89, u90, u91, u92, u93, u94, u95, u96, u97, u98, u99, u100, u101, u102, u103, u104, u105, u106, u107, u108, u109, u110, u111, u112, u113, u114, u115, u116, u117, .bool true, undef, undef, undef, undef, undef, undef, undef, undef, undef, undef, undef, undef, undef, undef, undef, undef, undef, undef, undef, undef, undef, undef, undef, undef, undef], []⟩ w') → R a' w', fun u0 u1 u12 u14 u16 u21 u22 u23 u24 u25 u26 u27 u28 u29 u30 u31 u32 u33 u34 u35 u36 u37 u38 u39 u40 u41 u42 u43 u44 u45 u46 u47 u48 u49 u50 u51 u52 u53 u54 u55 u56 u57 u58 u59 u60 u61 u62 u63 u64 u65 u66 u67 u68 u69 u70 u71 u72 u73 u74 u75 u76 u77 u78 u79 u80 u81 u82 u83 u84 u85 u86 u87 u88 u89 u90 u91 u92 u93 u94 u95 u96 u97 u98 u99 u100 u101 u102 u103 u104 u105 u106 u107 u108 u109 u110 u111 u112 u113 u114 u115 u116 u117 w' h R hR => hR u0 u1 u12 u14 u16 u21 u22 u23 u24 u25 u26 u27 u28 u29 u30 u31 u32 u33 u34 u35 u36 u37 u38 u39 u40 u41 u42 u43 u44 u45 u46 u47 u48 u49 u50 u51 u52 u53 u54 u55 u56 u57 u58 u59 u60 u61 u62 u63 u64 u65 u66 u67 u68 u69 u70 u71 u72 u73 u74 u75 u76 u77 u78 u79 u80 u81 u82 u83 u84 u85 u86 u87 u88 u89 u90 u91 u92 u93 u94 u95 u96 u97 u98 u99 u100 u101 u102 u103 u104 u105 u106 u107 u108 u109 u110 u111 u112 u113 u114 u115 u116 u117 w' h, fun a' w' h => h⟩
    refine wpList_at 15 K2 ?_ ?_
    · simp only [List.take_succ_cons, List.take_zero]
      clear HKe
      by_cases g2 : E3 = 0
      · have gb2 : (E3 == 0) = true := by simpa using g2
        have HG2 := Lib.hid g2
        clear g2
        go_wp2_with fail
        refine (KT3.out HG2.out _ _ _ _ HS2.out.2.1).mono ?_
        rintro e vg ⟨rfl, hb⟩
        have HL := Lib.hid (And.intro (HS2.out.1.below hb) (And.intro (keepSt hb HS2.out.2.1) (And.intro (HS2.out.2.2.1.below hb) (And.intro (keepSt hb HS2.out.2.2.2.1) (And.intro (HS2.out.2.2.2.2.1.below hb) (And.intro (keepSt hb HS2.out.2.2.2.2.2.1) (keepBelow HS2.out.2.2.2.2.2.2 hb)))))))
        have HM := (And.intro HL.out.2.2.1 (And.intro HL.out.2.2.2.1 (And.intro HL.out.2.2.2.2.1 (And.intro HL.out.2.2.2.2.2.1 HL.out.2.2.2.2.2.2))))
        clear HL
        go_wp2
        show K2 _ _
        exact HKi.out _ _ _ _ _ _ _ _ _ _ _ _ _ _ _ _ _ _ _ _ _ _ _ _ _ _ _ _ _ _ _ _ _ _ _ _ _ _ _ _ _ _ _ _ _ _ _ _ _ _ _ _ _ _ _ _ _ _ _ _ _ _ _ _ _ _ _ _ _ _ _ _ _ _ _ _ _ _ _ _ _ _ _ _ _ _ _ _ _ _ _ _ _ _ _ _ _ _ _ _ _ _ _ HM
      · have gb2 : (E3 != 0) = true := by simpa using g2
        clear g2
        have HM := Lib.hid ((And.intro HS2.out.2.2.1 (And.intro HS2.out.2.2.2.1 (And.intro HS2.out.2.2.2.2.1 (And.intro HS2.out.2.2.2.2.2.1 HS2.out.2.2.2.2.2.2)))))
        go_wp2
        show K2 _ _
        exact HKi.out _ _ _ _ _ _ _ _ _ _ _ _ _ _ _ _ _ _ _ _ _ _ _ _ _ _ _ _ _ _ _ _ _ _ _ _ _ _ _ _ _ _ _ _ _ _ _ _ _ _ _ _ _ _ _ _ _ _ _ _ _ _ _ _ _ _ _ _ _ _ _ _ _ _ _ _ _ _ _ _ _ _ _ _ _ _ _ _ _ _ _ _ _ _ _ _ _ _ _ _ _ _ _ HM.out
    intro a' v2 hK
    refine HKe.out a' v2 hK _ ?_
    clear hK a' v2
    intro u0 u1 u12 u14 u16 u21 u22 u23 u24 u25 u26 u27 u28 u29 u30 u31 u32 u33 u34 u35 u36 u37 u38 u39 u40 u41 u42 u43 u44 u45 u46 u47 u48 u49 u50 u51 u52 u53 u54 u55 u56 u57 u58 u59 u60 u61 u62 u63 u64 u65 u66 u67 u68 u69 u70 u71 u72 u73 u74 u75 u76 u77 u78 u79 u80 u81 u82 u83 u84 u85 u86 u87 u88 u89 u90 u91 u92 u93 u94 u95 u96 u97 u98 u99 u100 u101 u102 u103 u104 u105 u106 u107 u108 u109 u110 u111 u112 u113 u114 u115 u116 u117 v2 HS
    have HS3 := Lib.hid HS
    clear F0 F1 F2 F3 F4 F5 F6 hbe
    clear HS HS2 KT3 HKi HKe
    simp only [List.drop_succ_cons, List.drop_zero]
    obtain ⟨⟨⟨G0, G1, G2, G3, G4, G5, G6⟩, -⟩, -, -, -, hbe⟩ := HS3.out
    obtain ⟨K3, HKi, HKe⟩ : ∃ K : Act → World → Prop, Hid (∀ (u0 u1 u12 u14 u16 u18 u21 u22 u23 u24 u25 u26 u27 u28 u29 u30 u31 u32 u33 u34 u35 u36 u37 u38 u39 u40 u41 u42 u43 u44 u45 u46 u47 u48 u49 u50 u51 u52 u53 u54 u55 u56 u57 u58 u59 u60 u61 u62 u63 u64 u65 u66 u67 u68 u69 u70 u71 u72 u73 u74 u75 u76 u77 u78 u79 u80 u81 u82 u83 u84 u85 u86 u87 u88 u89 u90 u91 u92 u93 u94 u95 u96 u97 u98 u99 u100 u101 u102 u103 u104 u105 u106 u107 u108 u109 u110 u111 u112 u113 u114 u115 u116 u117 u118 u119 u120 u121 u122 u123 u124 u125 u126 u127 u128 u129 : Value) (w' : World), (Set7 w' w7.heap.size (.int .i64 T5.lf.1) (.slice i1 T5.lf.2.length im1) (.int .i64 T5.rt.1) (.slice i2 T5.rt.2.length im2) (.int .i64 T5.fr) (.int .i64 T5.to) (.slice i3 T5.l.length im3) ∧ RdSt w' T5 (.slice i1 T5.lf.2.length im1) (.slice i2 T5.rt.2.length im2) (.slice i3 T5.l.length im3) ∧ Below w.heap.size w w') → K ⟨#[u0, u1, .int .i64 x, .int .i64 n, .pointer (some ⟨w.heap.size, 0, none⟩), .pointer (some ⟨w.heap.size + 1, 0, none⟩), undef, undef, .bool false, .bool false, .bool q, .pointer (some ⟨w3.heap.size, 0, none⟩), u12, .pointer (some ⟨w4.heap.size, 0, none⟩), u14, .pointer (some ⟨w5.heap.size, 0, none⟩), u16, .pointer (some ⟨w6.heap.size, 0, none⟩), u18, .pointer (some ⟨w7.heap.size, 0, none⟩), .int .i64 E5, u21, u22, u23, u24, u25, u26, u27, u28, u29, u30, u31, u32, u33, u34, u35, u36, u37, u38, u39, u40, u41, u42, u43, u44, u45, u46, u47, u48, u49, u50, u51, u52, u53, u54, u55, u56, u57, u58, u59, u60, u61, u62, u63, u64, u65, u66, u67, u68, u69, u70, u71, u72, u73, u74, u75, u76, u77, u78, u79, u80, u81, u82, u83, u84, u85, u86, u87, u88, u89, u90, u91, u92, u93, u94, u95, u96, u97, u98, u99, u100, u101, u102, u103, u104, u105, u106, u107, u108, u109, u110, u111, u112, u113, u114, u115, u116, u117, u118, u119, u120, u121, u122, u123, u124, u125, u126, u127, u128, u129, .bool true, undef, undef, undef, undef, undef, undef, undef, undef, undef, undef, undef, undef, undef], []⟩ w') ∧ Hid (∀ a' w', K a' w' → ∀ R : Act → World → Prop, (∀ (u0 u1 u12 u14 u16 u18 u21 u22 u23 u24 u25 u26 u27 u28 u29 u30 u31 u32 u33 u34 u35 u36 u37 u38 u39 u40 u41 u42 u43 u44 u45 u46 u47 u48 u49 u50 u51 u52 u53 u54 u55 u56 u57 u58 u59 u60 u61 u62 u63 u64 u65 u66 u67 u68 u69 u70 u71 u72 u73 u74 u75 u76 u77 u78 u79 u80 u81 u82 u83 u84 u85 u86 u87 u88 u89 u90 u91 u92 u93 u94 u95 u96 u97 u98 u99 u100 u101 u102 u103 u104 u105 u106 u107 u108 u109 u110 u111 u112 u113 u114 u115 u116 u117 u118 u119 u120 u121 u122 u123 u124 u125 u126 u127 u128 u129 : Value) (w' : World), (Set7 w' w7.heap.size (.int .i64 T5.lf.1) (.slice i1 T5.lf.2.length im1) (.int .i64 T5.rt.1) (.slice i2 T5.rt.2.length im2) (.int .i64 T5.fr) (.int .i64 T5.to) (.slice i3 T5.l.length im3) ∧ RdSt w' T5 (.slice i1 T5.lf.2.length im1) (.slice i2 T5.rt.2.length im2) (.slice i3 T5.l.length im3) ∧ Below w.heap.size w w') → R ⟨#[u0, u1, .int .i64 x, .int .i64 n, .pointer (some ⟨w.heap.size, 0, none⟩), .pointer (some ⟨w.heap.size + 1, 0, none⟩), undef, undef, .bool false, .bool false, .bool q, .pointer (some ⟨w3.heap.size, 0, none⟩), u12, .pointer (some ⟨w4.heap.size, 0, none⟩), u14, .pointer (some ⟨w5.heap.size, 0, none⟩), u16, .pointer (some ⟨w6.heap.size, 0, none⟩), u18, .pointer (some ⟨w7.heap.size, 0, none⟩), .int .i64 E5, u21, u22, u23, u24, u25, u26, u27, u28, u29, u30, u31, u32, u33, u34, u35, u36, u37, u38, u39, u40, u41, u42, u43, u44, u45, u46, u47, u48, u49, u50, u51, u52, u53, u54, u55, u56, u57, u58, u59, u60, u61, u62, u63, u64, u65, u66, u67, u68, u69, u70, u71, u72, u73, u74, u75, u76, u77, u78, u79, u80, u81, u82, u83, u84, u85, u86, u87, u88, u89, u90, u91, u92, u93, u94, u95, u96, u97, u98, u99, u100, u101, u102, u103, u104, u105, u106, u107, u108, u109, u110, u111, u112, u113, u114, u115, u116, u117, u118, u119, u120, u121, u122, u123, u124, u125, u126, u127, u128, u129, .bool true, undef, undef, undef, undef, undef, undef, undef, undef, undef, undef, undef, undef, undef], []⟩ w') → R a' w') :=
      ⟨fun a' w' => ∀ R : Act → World → Prop, (∀ (u0 u1 u12 u14 u16 u18 u21 u22 u23 u24 u25 u26 u27 u28 u29 u30 u31 u32 u33 u34 u35 u36 u37 u38 u39 u40 u41 u42 u43 u44 u45 u46 u47 u48 u49 u50 u51 u52 u53 u54 u55 u56 u57 u58 u59 u60 u61 u62 u63 u64 u65 u66 u67 u68 u69 u70 u71 u72 u73 u74 u75 u76 u77 u78 u79 u80 u81 u82 u83 u84 u85 u86 u87 u88 u89 u90 u91 u92 u93 u94 u95 u96 u97 u98 u99 u100 u101 u102 u103 u104 u105 u106 u107 u108 u109 u110 u111 u112 u113 u114 u115 u116 u117 u118 u119 u120 u121 u122 u123 u124 u125 u126 u127 u128 u129 : Value) (w' : World), (Set7 w' w7.heap.size (.int .i64 T5.lf.1) (.slice i1 T5.lf.2.length im1) (.int .i64 T5.rt.1) (.slice i2 T5.rt.2.length im2) (.int .i64 T5.fr) (.int .i64 T5.to) (.slice i3 T5.l.length im3) ∧ RdSt w' T5 (.slice i1 T5.lf.2.length im1) (.slice i2 T5.rt.2.length im2) (.slice i3 T5.l.length im3) ∧ Below w.heap.size w w') → R ⟨#[u0, u1, .int .i64 x, .int .i64 n, .pointer (some ⟨w.heap.size, 0, none⟩), .pointer (some ⟨w.heap.size + 1, 0, none⟩), undef, undef, .bool false, .bool false, .bool q, .pointer (some ⟨w3.heap.size, 0, none⟩), u12, .pointer (some ⟨w4.heap.size, 0, none⟩), u14, .pointer (some ⟨w5.heap.size, 0, none⟩), u16, .pointer (some ⟨w6.heap.size, 0, none⟩), u18, .pointer (some ⟨w7.heap.size, 0, none⟩), .int .i64 E5, u21, u22, u23, u24, u25, u26, u27, u28, u29, u30, u31, u32, u33, u34, u35, u36, u37, u38, u39, u40, u41, u42, u43, u44, u45, u46, u47, u48, u49, u50, u51, u52, u53, u54, u55, u56, u57, u58, u59, u60, u61, u62, u63, u64, u65, u66, u67, u68, u69, u70, u71, u72, u73, u74, u75, u76, u77, u78, u79, u80, u81, u82, u83, u84, u85, u86, u87, u88, u89, u90, u91, u92, u93, u94, u95, u96, u97, u98, u99, u100, u101, u102, u103, u104, u105, u106, u107, u108, u109, u110, u111, u112, u113, u114, u115, u116, u117, u118, u119, u120, u121, u122, u123, u124, u125, u126, u127, u128, u129, .bool true, undef, undef, undef, undef, undef, undef, undef, undef, undef, undef, undef, undef, undef], []⟩ w') → R a' w', fun u0 u1 u12 u14 u16 u18 u21 u22 u23 u24 u25 u26 u27 u28 u29 u30 u31 u32 u33 u34 u35 u36 u37 u38 u39 u40 u41 u42 u43 u44 u45 u46 u47 u48 u49 u50 u51 u52 u53 u54 u55 u56 u57 u58 u59 u60 u61 u62 u63 u64 u65 u66 u67 u68 u69 u70 u71 u72 u73 u74 u75 u76 u77 u78 u79 u80 u81 u82 u83 u84 u85 u86 u87 u88 u89 u90 u91 u92 u93 u94 u95 u96 u97 u98 u99 u100 u101 u102 u103 u104 u105 u106 u107 u108 u109 u110 u111 u112 u113 u114 u115 u116 u117 u118 u119 u120 u121 u122 u123 u124 u125 u126 u127 u128 u129 w' h R hR => hR u0 u1 u12 u14 u16 u18 u21 u22 u23 u24 u25 u26 u27 u28 u29 u30 u31 u32 u33 u34 u35 u36 u37 u38 u39 u40 u41 u42 u43 u44 u45 u46 u47 u48 u49 u50 u51 u52 u53 u54 u55 u56 u57 u58 u59 u60 u61 u62 u63 u64 u65 u66 u67 u68 u69 u70 u71 u72 u73 u74 u75 u76 u77 u78 u79 u80 u81 u82 u83 u84 u85 u86 u87 u88 u89 u90 u91 u92 u93 u94 u95 u96 u97 u98 u99 u100 u101 u102 u103 u104 u105 u106 u107 u108 u109 u110 u111 u112 u113 u114 u115 u116 u117 u118 u119 u120 u121 u122 u123 u124 u125 u126 u127 u128 u129 w' h, fun a' w' h => h⟩
    refine wpList_at 12 K3 ?_ ?_
    · simp only [List.take_succ_cons, List.take_zero]
      clear HKe
      by_cases g3 : E4 = 0
      · have gb3 : (E4 == 0) = true := by simpa using g3
        have HG3 := Lib.hid g3
        clear g3
        go_wp2_with fail
        refine (KT4.out HG3.out _ _ _ _ HS3.out.2.1).mono ?_
        rintro e vg ⟨rfl, hb⟩
        have HL := Lib.hid (And.intro (HS3.out.1.below hb) (And.intro (keepSt hb HS3.out.2.1) (And.intro (HS3.out.2.2.1.below hb) (And.intro (keepSt hb HS3.out.2.2.2.1) (keepBelow HS3.out.2.2.2.2 hb)))))
        have HM := (And.intro HL.out.2.2.1 (And.intro HL.out.2.2.2.1 HL.out.2.2.2.2))
        clear HL
        go_wp2
        show K3 _ _
        exact HKi.out _ _ _ _ _ _ _ _ _ _ _ _ _ _ _ _ _ _ _ _ _ _ _ _ _ _ _ _ _ _ _ _ _ _ _ _ _ _ _ _ _ _ _ _ _ _ _ _ _ _ _ _ _ _ _ _ _ _ _ _ _ _ _ _ _ _ _ _ _ _ _ _ _ _ _ _ _ _ _ _ _ _ _ _ _ _ _ _ _ _ _ _ _ _ _ _ _ _ _ _ _ _ _ _ _ _ _ _ _ _ _ _ _ _ _ _ HM
      · have gb3 : (E4 != 0) = true := by simpa using g3
        clear g3
        have HM := Lib.hid ((And.intro HS3.out.2.2.1 (And.intro HS3.out.2.2.2.1 HS3.out.2.2.2.2)))
        go_wp2
        show K3 _ _
        exact HKi.out _ _ _ _ _ _ _ _ _ _ _ _ _ _ _ _ _ _ _ _ _ _ _ _ _ _ _ _ _ _ _ _ _ _ _ _ _ _ _ _ _ _ _ _ _ _ _ _ _ _ _ _ _ _ _ _ _ _ _ _ _ _ _ _ _ _ _ _ _ _ _ _ _ _ _ _ _ _ _ _ _ _ _ _ _ _ _ _ _ _ _ _ _ _ _ _ _ _ _ _ _ _ _ _ _ _ _ _ _ _ _ _ _ _ _ _ HM.out
    intro a' v3 hK
    refine HKe.out a' v3 hK _ ?_
    clear hK a' v3
    intro u0 u1 u12 u14 u16 u18 u21 u22 u23 u24 u25 u26 u27 u28 u29 u30 u31 u32 u33 u34 u35 u36 u37 u38 u39 u40 u41 u42 u43 u44 u45 u46 u47 u48 u49 u50 u51 u52 u53 u54 u55 u56 u57 u58 u59 u60 u61 u62 u63 u64 u65 u66 u67 u68 u69 u70 u71 u72 u73 u74 u75 u76 u77 u78 u79 u80 u81 u82 u83 u84 u85 u86 u87 u88 u89 u90 u91 u92 u93 u94 u95 u96 u97 u98 u99 u100 u101 u102 u103 u104 u105 u106 u107 u108 u109 u110 u111 u112 u113 u114 u115 u116 u117 u118 u119 u120 u121 u122 u123 u124 u125 u126 u127 u128 u129 v3 HS
    have HS4 := Lib.hid HS
    clear G0 G1 G2 G3 G4 G5 G6 hbe
    clear HS HS3 KT4 HKi HKe
    simp only [List.drop_succ_cons, List.drop_zero]
    obtain ⟨⟨⟨I0, I1, I2, I3, I4, I5, I6⟩, -⟩, -, hbe⟩ := HS4.out
    by_cases g4 : E5 = 0
    · have gb4 : (E5 == 0) = true := by simpa using g4
      have HG4 := Lib.hid g4
      clear g4
      go_wp2_with fail
      refine (KT5.out HG4.out _ _ _ _ HS4.out.2.1).mono ?_
      rintro e vg ⟨rfl, hb⟩
      have HL := Lib.hid (And.intro (HS4.out.1.below hb) (And.intro (keepSt hb HS4.out.2.1) (keepBelow HS4.out.2.2 hb)))
      have hbe := HL.out.2.2
      clear HL hb
      go_wp2
      go_ret
      exact ⟨rfl, hbe⟩
    · have gb4 : (E5 != 0) = true := by simpa using g4
      clear g4
      go_wp2
      go_ret
      exact ⟨rfl, hbe⟩
end Go.Proofs.YtnjpceocnldlfaaGreat
