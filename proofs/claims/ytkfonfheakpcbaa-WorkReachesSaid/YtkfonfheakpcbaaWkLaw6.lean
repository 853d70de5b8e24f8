/- The laws WorkReaches. -/
import Derived.Test.YtkfonfheakpcbaaWkHrs
import Derived.Test.YtkfonfheakpcbaaWkSub
namespace Go.Proofs.Ytkfonfheakpcbaa
open Go.RowKit Wk

set_option maxRecDepth 100000 in
set_option maxHeartbeats 4000000 in
theorem law_WorkReaches (s : St) (vl vr vv : Value) (t n : Int) (w : World) (h : RdSt w s vl vr vv) :
    Calls Try.prog 6 #[.agg #[.int .i64 s.lf.1, vl, .int .i64 s.rt.1, vr, .int .i64 s.fr, .int .i64 s.to, vv], .int .i64 t, .int .i64 n] w fun e w' => e = .returned (.bool true) ∧ Below w.heap.size w w' := by
  have HA := Lib.hid (fun W => awake_any W)
  have HLG := Lib.hid (fun W h => large_any s vl vr vv W h)
  have KM : Hid (∀ (x y : Int), ∀ W, RdSt W s vl vr vv → Calls Try.prog 14 #[.agg #[.int .i64 s.lf.1, vl, .int .i64 s.rt.1, vr, .int .i64 s.fr, .int .i64 s.to, vv], .int .i64 x, .int .i64 y] W fun e w' => e = .returned (.tuple #[.int .i64 (MeaM (VB s) s x y).1, .int .i64 (MeaM (VB s) s x y).2]) ∧ Below W.heap.size W w') := fun x y W h => wmeasure_any s vl vr vv x y W h
  have KA : Hid (∀ (x y : Int), ∀ W, RdSt W s vl vr vv → Calls Try.prog 12 #[.agg #[.int .i64 s.lf.1, vl, .int .i64 s.rt.1, vr, .int .i64 s.fr, .int .i64 s.to, vv], .int .i64 x, .int .i64 y] W fun e w' => e = .returned (.tuple #[.int .i64 (AddM (VB s) s x y).1, .int .i64 (AddM (VB s) s x y).2]) ∧ Below W.heap.size W w') := fun x y W h => wAdd_any s vl vr vv x y W h
  have KS : Hid (∀ (x y : Int), ∀ W, RdSt W s vl vr vv → Calls Try.prog 15 #[.agg #[.int .i64 s.lf.1, vl, .int .i64 s.rt.1, vr, .int .i64 s.fr, .int .i64 s.to, vv], .int .i64 x, .int .i64 y] W fun e w' => e = .returned (.tuple #[.int .i64 (SubM (VB s) s x y).1, .int .i64 (SubM (VB s) s x y).2]) ∧ Below W.heap.size W w') := fun x y W h => wSub_any s vl vr vv x y W h
  have KH : Hid (∀ (x : Int), ∀ W, RdSt W s vl vr vv → -1152921504606846976 ≤ x → x ≤ 1152921504606846976 → Calls Try.prog 16 #[.agg #[.int .i64 s.lf.1, vl, .int .i64 s.rt.1, vr, .int .i64 s.fr, .int .i64 s.to, vv], .int .i64 x] W fun e w' => e = .returned (.bool (VB s && hasS s x)) ∧ Below W.heap.size W w') := fun x W h h1 h2 => thas_any s vl vr vv x W h h1 h2
  have HGD : Hid (VB s = true → GoodS s) := fun hg => (okS_of_VB hg).good
  generalize VB s = vb at *
  generalize largeB s = lg at *

  have HR0 := Lib.hid h
  obtain ⟨a1, n1, rfl⟩ := h.1.form
  obtain ⟨a2, n2, rfl⟩ := h.2.1.form
  obtain ⟨a3, n3, rfl⟩ := h.2.2.form
  clear h
  obtain ⟨W, hWe⟩ : ∃ W, w.alloc (.cells #[.int .i64 s.lf.1, .slice a1 s.lf.2.length n1, .int .i64 s.rt.1, .slice a2 s.rt.2.length n2, .int .i64 s.fr, .int .i64 s.to, .slice a3 s.l.length n3] 26) = W := ⟨_, rfl⟩
  have hW : Below w.heap.size w W := by rw [← hWe]; exact (Below.refl _ w).alloc (Nat.le_refl _) _
  have HX : Hid (Set7 W w.heap.size (.int .i64 s.lf.1) (.slice a1 s.lf.2.length n1) (.int .i64 s.rt.1) (.slice a2 s.rt.2.length n2) (.int .i64 s.fr) (.int .i64 s.to) (.slice a3 s.l.length n3)) := by
    rw [← hWe]
    refine ⟨⟨?_, ?_, ?_, ?_, ?_, ?_, ?_⟩, ?_, ?_, ?_, ?_, ?_, ?_, ?_⟩ <;> simp [go_sem]
  have HR := Lib.hid (keepSt hW HR0.out)
  have HE := Lib.hid hWe
  clear hWe HR0
  obtain ⟨⟨B0, B1, B2, B3, B4, B5, B6⟩, _⟩ := HX.out
  go_enter Try.func6, Try.ntmps6
  go_wp2_with fail
  rw [HE.out]

  go_wp2_with fail
  refine (HA.out _).mono ?_
  rintro e w1 ⟨rfl, hb1⟩
  have HX1 := Lib.hid (HX.out.below hb1)
  have HR1 := Lib.hid (keepSt hb1 HR.out)
  have hB1 := keepBelow hW hb1
  clear hb1 B0 B1 B2 B3 B4 B5 B6 HX HR HE HA
  obtain ⟨⟨B0, B1, B2, B3, B4, B5, B6⟩, _⟩ := HX1.out

  go_wp2_with fail
  refine (HLG.out _ HR1.out).mono ?_
  rintro e w2 ⟨rfl, hb2⟩
  have HX2 := Lib.hid (HX1.out.below hb2)
  have HR2 := Lib.hid (keepSt hb2 HR1.out)
  have hB2 := keepBelow hB1 hb2
  clear hb2 B0 B1 B2 B3 B4 B5 B6 HX1 HR1 HLG
  obtain ⟨⟨B0, B1, B2, B3, B4, B5, B6⟩, _⟩ := HX2.out

  cases lg with
  | true =>
    go_wp2
    go_ret
    exact ⟨rfl, hB2⟩
  | false =>

  obtain ⟨⟨u, e0⟩, hp⟩ : ∃ p, AddM vb s t n = p := ⟨_, rfl⟩
  obtain ⟨⟨v, f0⟩, hq⟩ : ∃ p, SubM vb s t n = p := ⟨_, rfl⟩
  have KA1 := KA.out t n
  have KS1 := KS.out t n
  rw [hp] at KA1
  rw [hq] at KS1
  have HP := Lib.hid hp
  have HQ := Lib.hid hq
  have KA1 := Lib.hid KA1
  have KS1 := Lib.hid KS1
  clear hp hq KA KS
  go_wp2_with fail
  refine (KA1.out _ HR2.out).mono ?_
  rintro e' w3 ⟨rfl, hb3⟩
  have HX3 := Lib.hid (HX2.out.below hb3)
  have HR3 := Lib.hid (keepSt hb3 HR2.out)
  have hB3 := keepBelow hB2 hb3
  clear hb3 B0 B1 B2 B3 B4 B5 B6 HX2 HR2 
  obtain ⟨⟨B0, B1, B2, B3, B4, B5, B6⟩, _⟩ := HX3.out
  go_wp2_with fail
  refine (KS1.out _ HR3.out).mono ?_
  rintro e' w4 ⟨rfl, hb4⟩
  have HX4 := Lib.hid (HX3.out.below hb4)
  have HR4 := Lib.hid (keepSt hb4 HR3.out)
  have hB4 := keepBelow hB3 hb4
  clear hb4 B0 B1 B2 B3 B4 B5 B6 HX3 HR3 
  obtain ⟨⟨B0, B1, B2, B3, B4, B5, B6⟩, _⟩ := HX4.out

  go_upto_if 38 with fail
  go_cut [11, 12, 13, 14] from 23 to 85 (fun _ _ _ _ wx => Below w4.heap.size w4 wx)
  case first =>
    by_cases he0 : e0 = 0
    · subst he0
      obtain ⟨f1, f2, f3, f4, f5, f6⟩ := reach_add HGD.out HP.out
      obtain ⟨_, _, n0, n1', _⟩ := AddM_ok HP.out
      subst f4
      have KM1 := KM.out t u
      have KM2 := KM.out t (u - 1)
      have KH1 := KH.out (u - 1)
      rw [f1] at KM1
      have F3 := Lib.hid f3
      have g1 : decide (u < t) = false := by simp; omega
      have s1 : IntKind.i64.wrap (u - 1) = u - 1 := by rw [IntKind.wrap_i64]; omega
      have s2 : IntKind.i64.wrap (n - 1) = n - 1 := by rw [IntKind.wrap_i64]; omega
      have KM1 := Lib.hid KM1
      have KH1 := Lib.hid (fun W h => KH1 W h (by omega) (by omega))
      clear f1 f3
      by_cases hlt : t < u
      · obtain ⟨x1, x2⟩ := F3.out hlt
        rw [x1] at KM2
        have KH2 := KH1.out
        rw [x2] at KH2
        have KM2 := Lib.hid KM2
        have KH2 := Lib.hid KH2
        have g2 : decide (t < u) = true := by simpa using hlt
        clear x1 x2 F3 KH KM KH1
        go_wp2_with fail
        refine (KM1.out _ HR4.out).mono ?_
        rintro e' w5 ⟨rfl, hb5⟩
        have hC5 : Below w4.heap.size w4 w5 := hb5
        have HX5 := Lib.hid (HX4.out.below hb5)
        have HR5 := Lib.hid (keepSt hb5 HR4.out)
        have hB5 := keepBelow hB4 hb5
        clear hb5 B0 B1 B2 B3 B4 B5 B6 HX4 HR4 
        obtain ⟨⟨B0, B1, B2, B3, B4, B5, B6⟩, _⟩ := HX5.out
        go_wp2_with fail
        refine (KM2.out _ HR5.out).mono ?_
        rintro e' w6 ⟨rfl, hb6⟩
        have hC6 : Below w4.heap.size w4 w6 := hC5.trans (hb6.mono hC5.size)
        have HX6 := Lib.hid (HX5.out.below hb6)
        have HR6 := Lib.hid (keepSt hb6 HR5.out)
        have hB6 := keepBelow hB5 hb6
        clear hb6 B0 B1 B2 B3 B4 B5 B6 HX5 HR5 
        obtain ⟨⟨B0, B1, B2, B3, B4, B5, B6⟩, _⟩ := HX6.out
        go_wp2_with fail
        refine (KH2.out _ HR6.out).mono ?_
        rintro e' w7 ⟨rfl, hb7⟩
        have hC7 : Below w4.heap.size w4 w7 := hC6.trans (hb7.mono hC6.size)
        have HX7 := Lib.hid (HX6.out.below hb7)
        have HR7 := Lib.hid (keepSt hb7 HR6.out)
        have hB7 := keepBelow hB6 hb7
        clear hb7 B0 B1 B2 B3 B4 B5 B6 HX6 HR6 
        obtain ⟨⟨B0, B1, B2, B3, B4, B5, B6⟩, _⟩ := HX7.out

        go_wp2_with fail
        go_meet
        case rel => exact (hC7)

      · have g2 : decide (t < u) = false := by simpa using hlt
        obtain ⟨⟨m2, q2⟩, hm2⟩ : ∃ p, MeaM true s t (u - 1) = p := ⟨_, rfl⟩
        rw [hm2] at KM2
        have KM2 := Lib.hid KM2
        clear hm2 F3 KH KM KH1
        go_wp2_with fail
        refine (KM1.out _ HR4.out).mono ?_
        rintro e' w5 ⟨rfl, hb5⟩
        have hC5 : Below w4.heap.size w4 w5 := hb5
        have HX5 := Lib.hid (HX4.out.below hb5)
        have HR5 := Lib.hid (keepSt hb5 HR4.out)
        have hB5 := keepBelow hB4 hb5
        clear hb5 B0 B1 B2 B3 B4 B5 B6 HX4 HR4 
        obtain ⟨⟨B0, B1, B2, B3, B4, B5, B6⟩, _⟩ := HX5.out
        go_wp2_with fail
        refine (KM2.out _ HR5.out).mono ?_
        rintro e' w6 ⟨rfl, hb6⟩
        have hC6 : Below w4.heap.size w4 w6 := hC5.trans (hb6.mono hC5.size)
        have HX6 := Lib.hid (HX5.out.below hb6)
        have HR6 := Lib.hid (keepSt hb6 HR5.out)
        have hB6 := keepBelow hB5 hb6
        clear hb6 B0 B1 B2 B3 B4 B5 B6 HX5 HR5 
        obtain ⟨⟨B0, B1, B2, B3, B4, B5, B6⟩, _⟩ := HX6.out

        go_wp2_with fail
        go_meet
        case rel => exact (hC6)

    · have g1 : (e0 == 0) = false := by simpa using he0
      go_wp2_with fail
      go_meet
      case rel => exact Below.refl _ _
  case rest =>

  have hcut := hcut
  have HX5 := Lib.hid (HX4.out.below hcut)
  have HR5 := Lib.hid (keepSt hcut HR4.out)
  have hB5 := keepBelow hB4 hcut
  clear hcut B0 B1 B2 B3 B4 B5 B6 HX4 HR4 HP
  obtain ⟨⟨B0, B1, B2, B3, B4, B5, B6⟩, _⟩ := HX5.out
  generalize wc = w5 at *
  by_cases hf0 : f0 = 0
  · subst hf0
    obtain ⟨f1, f2, f3, f4, f5, f6⟩ := reach_sub HGD.out HQ.out
    obtain ⟨_, _, n0, n1', _⟩ := SubM_ok HQ.out
    subst f4
    have KM1 := KM.out v t
    have KM2 := KM.out (v + 1) t
    have KH1 := KH.out v
    rw [f1] at KM1
    have F3 := Lib.hid f3
    have g1 : decide (t < v) = false := by simp; omega
    have s1 : IntKind.i64.wrap (v + 1) = v + 1 := by rw [IntKind.wrap_i64]; omega
    have s2 : IntKind.i64.wrap (n - 1) = n - 1 := by rw [IntKind.wrap_i64]; omega
    have KM1 := Lib.hid KM1
    have KH1 := Lib.hid (fun W h => KH1 W h (by omega) (by omega))
    clear f1 f3
    by_cases hlt : v < t
    · obtain ⟨x1, x2⟩ := F3.out hlt
      rw [x1] at KM2
      have KH2 := KH1.out
      rw [x2] at KH2
      have KM2 := Lib.hid KM2
      have KH2 := Lib.hid KH2
      have g2 : decide (v < t) = true := by simpa using hlt
      clear x1 x2 F3 KH KM KH1
      go_wp2_with fail
      refine (KM1.out _ HR5.out).mono ?_
      rintro e' w6 ⟨rfl, hb6⟩
      have HX6 := Lib.hid (HX5.out.below hb6)
      have HR6 := Lib.hid (keepSt hb6 HR5.out)
      have hB6 := keepBelow hB5 hb6
      clear hb6 B0 B1 B2 B3 B4 B5 B6 HX5 HR5 
      obtain ⟨⟨B0, B1, B2, B3, B4, B5, B6⟩, _⟩ := HX6.out
      go_wp2_with fail
      refine (KM2.out _ HR6.out).mono ?_
      rintro e' w7 ⟨rfl, hb7⟩
      have HX7 := Lib.hid (HX6.out.below hb7)
      have HR7 := Lib.hid (keepSt hb7 HR6.out)
      have hB7 := keepBelow hB6 hb7
      clear hb7 B0 B1 B2 B3 B4 B5 B6 HX6 HR6 
      obtain ⟨⟨B0, B1, B2, B3, B4, B5, B6⟩, _⟩ := HX7.out
      go_wp2_with fail
      refine (KH2.out _ HR7.out).mono ?_
      rintro e' w8 ⟨rfl, hb8⟩
      have HX8 := Lib.hid (HX7.out.below hb8)
      have HR8 := Lib.hid (keepSt hb8 HR7.out)
      have hB8 := keepBelow hB7 hb8
      clear hb8 B0 B1 B2 B3 B4 B5 B6 HX7 HR7 
      obtain ⟨⟨B0, B1, B2, B3, B4, B5, B6⟩, _⟩ := HX8.out

      go_wp2
      go_ret
      exact ⟨rfl, hB8⟩

    · have g2 : decide (v < t) = false := by simpa using hlt
      obtain ⟨⟨m2, q2⟩, hm2⟩ : ∃ p, MeaM true s (v + 1) t = p := ⟨_, rfl⟩
      rw [hm2] at KM2
      have KM2 := Lib.hid KM2
      clear hm2 F3 KH KM KH1
      go_wp2_with fail
      refine (KM1.out _ HR5.out).mono ?_
      rintro e' w6 ⟨rfl, hb6⟩
      have HX6 := Lib.hid (HX5.out.below hb6)
      have HR6 := Lib.hid (keepSt hb6 HR5.out)
      have hB6 := keepBelow hB5 hb6
      clear hb6 B0 B1 B2 B3 B4 B5 B6 HX5 HR5 
      obtain ⟨⟨B0, B1, B2, B3, B4, B5, B6⟩, _⟩ := HX6.out
      go_wp2_with fail
      refine (KM2.out _ HR6.out).mono ?_
      rintro e' w7 ⟨rfl, hb7⟩
      have HX7 := Lib.hid (HX6.out.below hb7)
      have HR7 := Lib.hid (keepSt hb7 HR6.out)
      have hB7 := keepBelow hB6 hb7
      clear hb7 B0 B1 B2 B3 B4 B5 B6 HX6 HR6 
      obtain ⟨⟨B0, B1, B2, B3, B4, B5, B6⟩, _⟩ := HX7.out

      go_wp2
      go_ret
      exact ⟨rfl, hB7⟩

  · have g1 : (f0 == 0) = false := by simpa using hf0
    go_wp2
    go_ret
    exact ⟨rfl, hB5⟩
end Go.Proofs.Ytkfonfheakpcbaa
