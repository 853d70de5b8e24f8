/- The law WorkDeadline. -/
import Derived.Test.YtkfonfheakpcbaaWkHrs
namespace Go.Proofs.Ytkfonfheakpcbaa
open Go.RowKit Wk

theorem second_eq (t : Int) : ∃ r0, Int.tmod t 86400 = r0 ∧ -86400 < r0 ∧ r0 < 86400 ∧ Int.tmod (r0 + 86400) 86400 = t - t / 86400 * 86400 := by
  by_cases h : 0 ≤ t
  · have e : Int.tmod t 86400 = t % 86400 := Int.tmod_eq_emod_of_nonneg h
    refine ⟨_, e, by omega, by omega, ?_⟩
    rw [Int.tmod_eq_emod_of_nonneg (by omega)]
    omega
  · have e : Int.tmod t 86400 = -((-t) % 86400) := by
      have := Int.neg_tmod (-t) 86400
      rw [Int.neg_neg] at this
      rw [this, Int.tmod_eq_emod_of_nonneg (by omega)]
    refine ⟨_, e, by omega, by omega, ?_⟩
    rw [Int.tmod_eq_emod_of_nonneg (by omega)]
    omega
theorem rdI_one (w : World) (x : Int) (T : TypeId) : RdI (w.alloc (.cells #[.int .i64 x] T)) (.slice (some ⟨w.heap.size, 0, none⟩) 1 1) [x] := by
  refine ⟨_, _, rfl, by simp, fun i hi => ?_⟩
  have h0 : i = 0 := by simpa using hi
  subst h0
  exact ⟨_, _, rfl, by simp [go_sem]⟩

set_option maxRecDepth 100000 in
set_option maxHeartbeats 4000000 in
theorem law_WorkDeadline (s : St) (vl vr vv : Value) (t n cut : Int) (w : World) (h : RdSt w s vl vr vv) :
    Calls Try.prog 3 #[.agg #[.int .i64 s.lf.1, vl, .int .i64 s.rt.1, vr, .int .i64 s.fr, .int .i64 s.to, vv], .int .i64 t, .int .i64 n, .int .i64 cut] w fun e w' => e = .returned (.bool true) ∧ Below w.heap.size w w' := by
  have HA := Lib.hid (fun W => awake_any W)
  have HLG := Lib.hid (fun W h => large_any s vl vr vv W h)
  have HLN := Lib.hid (fun v L W h => lline_any v L W h)
  have K1a := Lib.hid (fun c W h => wDeadline_any s vl vr vv t n c W h)
  have K2a := Lib.hid (fun x W h => wAdd_any s vl vr vv x n W h)
  have HSM := Lib.hid (fun (ht : lineB t = true) (h0 : 0 ≤ cut) (h1 : cut ≤ 86400) => cut_same (b := VB s) (s := s) (t := t) (n := n) (cut := cut) ht h0 h1)
  have HFL := Lib.hid (fun (ht : lineB t = true) => cut_full (b := VB s) (s := s) (t := t) (n := n) ht)
  generalize VB s = vb at *
  generalize largeB s = lg at *

  have HR0 := Lib.hid h
  obtain ⟨a1, n1, rfl⟩ := h.1.form
  obtain ⟨a2, n2, rfl⟩ := h.2.1.form
  obtain ⟨a3, n3, rfl⟩ := h.2.2.form
  clear h
  obtain ⟨W, hWe⟩ : ∃ W, w.alloc (.cells #[.int .i64 s.lf.1, .slice a1 s.lf.2.length n1, .int .i64 s.rt.1, .slice a2 s.rt.2.length n2, .int .i64 s.fr, .int .i64 s.to, .slice a3 s.l.length n3] 26) = W := ⟨_, rfl⟩
  have hW : Below w.heap.size w W := by rw [← hWe]; exact (Below.refl _ w).alloc (Nat.le_refl _) _
  have HX : Hid (Set7 W w.heap.size (.int .i64 s.lf.1) (.slice a1 s.lf.2.length n1) (.int .i64 s.rt.1) (.slice a2 s.rt.2.length n2) (.int .i64 s.fr) (.int .i64 s.to) (.slice a3 s.l.length n3)) := by
    rw [← hWe]
    refine ⟨⟨?_, ?_, ?_, ?_, ?_, ?_, ?_⟩, ?_, ?_, ?_, ?_, ?_, ?_, ?_⟩ <;> simp [go_sem]
  have HR := Lib.hid (keepSt hW HR0.out)
  have HE := Lib.hid hWe
  clear hWe HR0
  obtain ⟨⟨B0, B1, B2, B3, B4, B5, B6⟩, _⟩ := HX.out
  go_enter Try.func3, Try.ntmps3
  go_wp2_with fail
  rw [HE.out]

  go_wp2_with fail
  refine (HA.out _).mono ?_
  rintro e w1 ⟨rfl, hb1⟩
  have HX1 := Lib.hid (HX.out.below hb1)
  have HR1 := Lib.hid (keepSt hb1 HR.out)
  have hB1 := keepBelow hW hb1
  clear hb1 B0 B1 B2 B3 B4 B5 B6 HX HR HE HA
  obtain ⟨⟨B0, B1, B2, B3, B4, B5, B6⟩, _⟩ := HX1.out

  go_wp2_with fail
  refine (HLG.out _ HR1.out).mono ?_
  rintro e w2 ⟨rfl, hb2⟩
  have HX2 := Lib.hid (HX1.out.below hb2)
  have HR2 := Lib.hid (keepSt hb2 HR1.out)
  have hB2 := keepBelow hB1 hb2
  clear hb2 B0 B1 B2 B3 B4 B5 B6 HX1 HR1 HLG
  obtain ⟨⟨B0, B1, B2, B3, B4, B5, B6⟩, _⟩ := HX2.out

  cases lg with
  | true =>
    go_wp2
    go_ret
    exact ⟨rfl, hB2⟩
  | false =>
  go_wp2_with fail
  obtain ⟨W3, hW3⟩ : ∃ X, w2.alloc (.cells #[.int .i64 t] 3) = X := ⟨_, rfl⟩
  have hb3 : Below w2.heap.size w2 W3 := by rw [← hW3]; exact (Below.refl _ w2).alloc (Nat.le_refl _) _
  have HI := Lib.hid (rdI_one w2 t 3)
  rw [hW3] at HI ⊢
  clear hW3
  have HX3 := Lib.hid (HX2.out.below hb3)
  have HR3 := Lib.hid (keepSt hb3 HR2.out)
  have hB3 := keepBelow hB2 hb3
  clear hb3 B0 B1 B2 B3 B4 B5 B6 HX2 HR2 
  obtain ⟨⟨B0, B1, B2, B3, B4, B5, B6⟩, _⟩ := HX3.out

  refine (HLN.out _ _ _ HI.out).mono ?_
  rintro e w4 ⟨rfl, hb4⟩
  have HX4 := Lib.hid (HX3.out.below hb4)
  have HR4 := Lib.hid (keepSt hb4 HR3.out)
  have hB4 := keepBelow hB3 hb4
  clear hb4 B0 B1 B2 B3 B4 B5 B6 HX3 HR3 HI HLN
  obtain ⟨⟨B0, B1, B2, B3, B4, B5, B6⟩, _⟩ := HX4.out

  have hall : allB [t] = lineB t := by simp [allB]
  rw [hall]
  clear hall
  cases hlt : lineB t with
  | false =>
    clear hlt HSM HFL
    go_wp2
    go_ret
    exact ⟨rfl, hB4⟩
  | true =>
  have hln := (lineB_iff t).1 hlt
  have HLT := Lib.hid hlt
  clear hlt
  by_cases hc0 : cut < 0
  · have g2 : decide (cut < 0) = true := by simpa using hc0
    go_wp2
    go_ret
    exact ⟨rfl, hB4⟩
  have g2 : decide (cut < 0) = false := by simpa using hc0
  by_cases hc1 : 86400 < cut
  · have g3 : decide (86400 < cut) = true := by simpa using hc1
    go_wp2
    go_ret
    exact ⟨rfl, hB4⟩
  have g3 : decide (86400 < cut) = false := by simpa using hc1
  have hsm := HSM.out HLT.out (by omega) (by omega)
  have hfl := HFL.out HLT.out
  have HK1 := Lib.hid (fun W h => K1a.out cut W h)
  have HK3 := Lib.hid (fun W h => K1a.out 86400 W h)
  have HK2 := Lib.hid (fun W h => K2a.out (cutT0 t cut) W h)
  have HK4 := Lib.hid (fun W h => K2a.out t W h)
  rw [hsm] at HK1
  rw [hfl] at HK3
  obtain ⟨⟨p1, p2⟩, hp⟩ : ∃ p, AddM vb s (cutT0 t cut) n = p := ⟨_, rfl⟩
  rw [hp] at HK1 HK2
  obtain ⟨⟨q1, q2⟩, hq⟩ : ∃ q, AddM vb s t n = q := ⟨_, rfl⟩
  rw [hq] at HK3 HK4
  clear hp hq hsm hfl K1a K2a HSM HFL HLT
  have hmo := mod_lo t (P := 86400) (by omega)
  have HU0 : Hid (cutT0 t cut = if cut ≤ t - t / 86400 * 86400 then (t / 86400 + 1) * 86400 else t) := rfl

  obtain ⟨r0, e1, br1, br2, e2⟩ := second_eq t
  obtain ⟨sec, hsec⟩ : ∃ sec, t - t / 86400 * 86400 = sec := ⟨_, rfl⟩
  have hqe : (t / 86400 + 1) * 86400 = t - sec + 86400 := by omega
  rw [hqe] at HU0
  rw [hsec] at e2 HU0 hmo
  clear hqe hsec
  have s1 : IntKind.i64.wrap (r0 + 86400) = r0 + 86400 := by rw [IntKind.wrap_i64]; omega
  have s2 : IntKind.i64.wrap (t - sec) = t - sec := by rw [IntKind.wrap_i64]; omega
  have s3 : IntKind.i64.wrap (t - sec + 86400) = t - sec + 86400 := by rw [IntKind.wrap_i64]; omega
  go_wp2_with fail
  refine (HK1.out _ HR4.out).mono ?_
  rintro e w5 ⟨rfl, hb5⟩
  have HX5 := Lib.hid (HX4.out.below hb5)
  have HR5 := Lib.hid (keepSt hb5 HR4.out)
  have hB5 := keepBelow hB4 hb5
  clear hb5 B0 B1 B2 B3 B4 B5 B6 HX4 HR4 
  obtain ⟨⟨B0, B1, B2, B3, B4, B5, B6⟩, _⟩ := HX5.out

  by_cases hcq : cut ≤ sec
  · have g4 : decide (cut ≤ sec) = true := by simpa using hcq
    have HU := HU0.out
    rw [if_pos hcq] at HU
    rw [HU] at HK2
    clear HU HU0
    go_wp2_with fail
    refine (HK2.out _ HR5.out).mono ?_
    rintro e w6 ⟨rfl, hb6⟩
    have HX6 := Lib.hid (HX5.out.below hb6)
    have HR6 := Lib.hid (keepSt hb6 HR5.out)
    have hB6 := keepBelow hB5 hb6
    clear hb6 B0 B1 B2 B3 B4 B5 B6 HX5 HR5 
    obtain ⟨⟨B0, B1, B2, B3, B4, B5, B6⟩, _⟩ := HX6.out
    go_wp2_with fail
    refine (HK3.out _ HR6.out).mono ?_
    rintro e w7 ⟨rfl, hb7⟩
    have HX7 := Lib.hid (HX6.out.below hb7)
    have HR7 := Lib.hid (keepSt hb7 HR6.out)
    have hB7 := keepBelow hB6 hb7
    clear hb7 B0 B1 B2 B3 B4 B5 B6 HX6 HR6 
    obtain ⟨⟨B0, B1, B2, B3, B4, B5, B6⟩, _⟩ := HX7.out
    go_wp2_with fail
    refine (HK4.out _ HR7.out).mono ?_
    rintro e w8 ⟨rfl, hb8⟩
    have HX8 := Lib.hid (HX7.out.below hb8)
    have HR8 := Lib.hid (keepSt hb8 HR7.out)
    have hB8 := keepBelow hB7 hb8
    clear hb8 B0 B1 B2 B3 B4 B5 B6 HX7 HR7 
    obtain ⟨⟨B0, B1, B2, B3, B4, B5, B6⟩, _⟩ := HX8.out
    go_wp2
    go_ret
    exact ⟨ret_bool (by simp), hB8⟩

  · have g4 : decide (cut ≤ sec) = false := by simpa using hcq
    have HU := HU0.out
    rw [if_neg hcq] at HU
    rw [HU] at HK2
    clear HU HU0
    go_wp2_with fail
    refine (HK2.out _ HR5.out).mono ?_
    rintro e w6 ⟨rfl, hb6⟩
    have HX6 := Lib.hid (HX5.out.below hb6)
    have HR6 := Lib.hid (keepSt hb6 HR5.out)
    have hB6 := keepBelow hB5 hb6
    clear hb6 B0 B1 B2 B3 B4 B5 B6 HX5 HR5 
    obtain ⟨⟨B0, B1, B2, B3, B4, B5, B6⟩, _⟩ := HX6.out
    go_wp2_with fail
    refine (HK3.out _ HR6.out).mono ?_
    rintro e w7 ⟨rfl, hb7⟩
    have HX7 := Lib.hid (HX6.out.below hb7)
    have HR7 := Lib.hid (keepSt hb7 HR6.out)
    have hB7 := keepBelow hB6 hb7
    clear hb7 B0 B1 B2 B3 B4 B5 B6 HX6 HR6 
    obtain ⟨⟨B0, B1, B2, B3, B4, B5, B6⟩, _⟩ := HX7.out
    go_wp2_with fail
    refine (HK4.out _ HR7.out).mono ?_
    rintro e w8 ⟨rfl, hb8⟩
    have HX8 := Lib.hid (HX7.out.below hb8)
    have HR8 := Lib.hid (keepSt hb8 HR7.out)
    have hB8 := keepBelow hB7 hb8
    clear hb8 B0 B1 B2 B3 B4 B5 B6 HX7 HR7 
    obtain ⟨⟨B0, B1, B2, B3, B4, B5, B6⟩, _⟩ := HX8.out
    go_wp2
    go_ret
    exact ⟨ret_bool (by simp), hB8⟩
end Go.Proofs.Ytkfonfheakpcbaa
