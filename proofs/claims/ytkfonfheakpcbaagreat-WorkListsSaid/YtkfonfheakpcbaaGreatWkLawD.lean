import Derived.Test.YtkfonfheakpcbaaGreatWkHrs
import Derived.Test.YtkfonfheakpcbaaGreatWkRDa
import Derived.Test.YtkfonfheakpcbaaGreatWkRSh
/- The law WorkLists. -/
namespace Go.Proofs.YtkfonfheakpcbaaGreat
open Go.RowKit Wk

theorem ownI_rdI {w : World} {B : Nat} {v : Value} {L : List Int} (h : OwnI w B v L) (hl : L.length ≤ 1152921504606846976) : RdI w v L := by
  obtain ⟨a, c, rfl, hc⟩ := h.form
  refine ⟨a, c, rfl, hl, fun i hi => ?_⟩
  obtain ⟨g, rfl, _, c1⟩ := hc i hi
  exact ⟨g, 0, rfl, by rw [Nat.zero_add]; exact c1⟩
theorem RdI.form {w : World} {v : Value} {l : List Int} (h : RdI w v l) : ∃ a c, v = .slice a l.length c := let ⟨a, c, e, _⟩ := h; ⟨a, c, e⟩
theorem listI_eq_of_getD {a b : List Int} (hl : a.length = b.length) (h : ∀ j, j < a.length → a.getD j 0 = b.getD j 0) : a = b := by
  apply List.ext_getElem hl
  intro i h1 h2
  have := h i h1
  simpa [List.getD_eq_getElem?_getD, List.getElem?_eq_getElem h1, List.getElem?_eq_getElem h2] using this
theorem rdI_at {w wr : World} {a : Option Addr} {l : List Int} {k : Nat} (hc : ∀ i, i < l.length → ∃ b o, a = some ⟨b, o, none⟩ ∧ w.cell? ⟨b, o + i, none⟩ = some (.int .i64 (l.getD i 0)))
    (hB : Below w.heap.size w wr) (hlt : k < l.length) : ∃ b o x, a = some ⟨b, o, none⟩ ∧ Hid (l.getD k 0 = x) ∧ wr.cell? ⟨b, o + k, none⟩ = some (.int .i64 x) := by
  obtain ⟨b, o, e, c1⟩ := hc k hlt
  exact ⟨b, o, _, e, rfl, keepCell hB c1⟩

set_option maxHeartbeats 800000 in
/-- slices.Equal of ints; here: of a list that is read twice -/
theorem iseq_any (v1 v2 : Value) (l : List Int) (w : World) (h1 : RdI w v1 l) (h2 : RdI w v2 l) :
    Calls Tryz.prog 33 #[v1, v2] w fun e w' => e = .returned (.bool true) ∧ Below w.heap.size w w' := by
  obtain ⟨a1, c1, rfl, hl1, hc1⟩ := h1
  obtain ⟨a2, c2, rfl, hl2, hc2⟩ := h2
  have g0 : (((l.length : Int)) == (l.length : Int)) = true := by simp
  have g1 : (((l.length : Int)) != (l.length : Int)) = false := by simp
  go_enter Tryz.func33, Tryz.ntmps33
  go_wp2_with fail
  go_loopw [13] (fun i wr => ∃ k : Nat, k ≤ l.length ∧ i = .int .i64 k ∧ Below w.heap.size w wr) (fun i _ => l.length - (intOf i).toNat)
  case atStart => exact ⟨0, Nat.zero_le _, rfl, Below.refl _ _⟩
  case round =>
    obtain ⟨k, hk, rfl, hB⟩ := hrel
    by_cases hlt : k < l.length
    · obtain ⟨b, o, x, rfl, HXY, d1⟩ := rdI_at hc1 hB hlt
      obtain ⟨b', o', x', rfl, HXY', d1'⟩ := rdI_at (k := k) hc2 hB hlt
      obtain rfl : x = x' := HXY.out.symm.trans HXY'.out
      clear hc1 hc2 HXY HXY'
      have e1 := ext_cell d1
      have e1' := ext_cell d1'
      have hsz := hB.size
      have g2 : (x == x) = true := by simp
      have g3 : (x != x) = false := by simp
      go_wp2_with fail
      refine wp_region_ext (by kernel_rfl) (by kernel_rfl) ?_
      iterate 9 (go_big_quiet_step (fail))
      refine wpQuiet_nil ?_
      intro w1 hb1
      have hBn := hB.trans (hb1.mono hsz)
      go_wp2
      go_roundw
      case rel => exact ⟨k + 1, by omega, by go_num, hBn⟩
      case measure => simp [intOf]; omega
    · clear hc1 hc2
      go_wp2
      go_ret
      exact ⟨rfl, hB⟩

theorem days_short (b : Bool) (s : St) (f t least : Int) : (daysM b s f t least).1.length ≤ 1000 := by
  unfold daysM
  split
  · simp
  · split
    · simp
    · split
      · simp
      · rename_i h1 h2 h3
        have := days_len s f t least (f / 86400) ((t - 1) / 86400 - f / 86400 + 1).toNat
        simp only
        omega
theorem share_short (b : Bool) (s : St) (f t n : Int) : (shareM b s f t n).1.length ≤ 1000 := by
  unfold shareM
  split
  · simp
  · split
    · simp
    · split
      · simp
      · rename_i h1 h2 h3
        simp only [share_len]
        omega

theorem seq_self (v1 v2 : Value) (l : List Sp) (w : World) (h1 : RdS w v1 l) (h2 : RdS w v2 l) :
    Calls Tryz.prog 32 #[v1, v2] w fun e w' => e = .returned (.bool true) ∧ Below w.heap.size w w' := by
  have h := seq_any v1 v2 l l w h1 h2
  rwa [show decide (l = l) = true from decide_eq_true rfl] at h
theorem keepI {W w' : World} {v : Value} {l : List Int} (hb : Below W.heap.size W w') (h : RdI W v l) : RdI w' v l := h.below hb
theorem OwnS.below' {w w' : World} {B : Nat} {v : Value} {l : List Sp} (hb : Below w.heap.size w w') (h : OwnS w B v l) : OwnS w' B v l := h.below hb

set_option maxRecDepth 100000 in
set_option maxHeartbeats 8000000 in
theorem law_WorkLists (s : St) (vl vr vv : Value) (t n f u least : Int) (w : World) (h : RdSt w s vl vr vv) :
    Calls Tryz.prog 7 #[.agg #[.int .i64 s.lf.1, vl, .int .i64 s.rt.1, vr, .int .i64 s.fr, .int .i64 s.to, vv], .int .i64 t, .int .i64 n, .agg #[.int .i64 f, .int .i64 u], .int .i64 least] w fun e w' => e = .returned (.bool true) ∧ Below w.heap.size w w' := by
  have HA := Lib.hid (fun W => awake_any W)
  have HLG := Lib.hid (fun W h => large_any s vl vr vv W h)
  have K1 := Lib.hid (fun W h => wparts_any s vl vr vv t n W h)
  have K2 := Lib.hid (fun W h => parts26_any s vl vr vv t n W h)
  have K3 := Lib.hid (fun W h => wdays_any s vl vr vv f u least W h)
  have K4 := Lib.hid (fun W h => days26_any s vl vr vv f u least W h)
  have K5 := Lib.hid (fun W h => wshare_any s vl vr vv f u least W h)
  have K6 := Lib.hid (fun W h => share26_any s vl vr vv f u least W h)
  have HQS := Lib.hid (fun v1 v2 l W h1 h2 => seq_self v1 v2 l W h1 h2)
  have HQI := Lib.hid (fun v1 v2 l W h1 h2 => iseq_any v1 v2 l W h1 h2)
  have HD := days_short (VB s) s f u least
  have HS := share_short (VB s) s f u least
  generalize largeB s = lg at *
  unfold PaPost at K1
  unfold RPaPost at K2
  unfold DaPost at K3 K4
  unfold ShPost at K5 K6
  obtain ⟨⟨L1, r1⟩, hq1⟩ : ∃ p, partsM (VB s) s t n = p := ⟨_, rfl⟩
  rw [hq1] at K1 K2
  obtain ⟨⟨L3, r3⟩, hq3⟩ : ∃ p, daysM (VB s) s f u least = p := ⟨_, rfl⟩
  rw [hq3] at K3 K4 HD
  obtain ⟨⟨L5, r5⟩, hq5⟩ : ∃ p, shareM (VB s) s f u least = p := ⟨_, rfl⟩
  rw [hq5] at K5 K6 HS
  simp only at K1 K2 K3 K4 K5 K6 HD HS
  clear hq1 hq3 hq5
  have HR0 := Lib.hid h
  obtain ⟨a1, n1, rfl⟩ := h.1.form
  obtain ⟨a2, n2, rfl⟩ := h.2.1.form
  obtain ⟨a3, n3, rfl⟩ := h.2.2.form
  clear h
  obtain ⟨W, hWe⟩ : ∃ W, (w.alloc (.cells #[.int .i64 s.lf.1, .slice a1 s.lf.2.length n1, .int .i64 s.rt.1, .slice a2 s.rt.2.length n2, .int .i64 s.fr, .int .i64 s.to, .slice a3 s.l.length n3] 26)).alloc (.cells #[.int .i64 f, .int .i64 u] 44) = W := ⟨_, rfl⟩
  have hW : Below w.heap.size w W := by rw [← hWe]; exact ((Below.refl _ w).alloc (Nat.le_refl _) _).alloc (by simp) _
  have HX : Hid (Set7 W w.heap.size (.int .i64 s.lf.1) (.slice a1 s.lf.2.length n1) (.int .i64 s.rt.1) (.slice a2 s.rt.2.length n2) (.int .i64 s.fr) (.int .i64 s.to) (.slice a3 s.l.length n3) ∧ W.cell? ⟨w.heap.size + 1, 0, none⟩ = some (.int .i64 f) ∧ W.cell? ⟨w.heap.size + 1, 1, none⟩ = some (.int .i64 u)) := by
    rw [← hWe]
    refine ⟨⟨⟨?_, ?_, ?_, ?_, ?_, ?_, ?_⟩, ?_, ?_, ?_, ?_, ?_, ?_, ?_⟩, ?_, ?_⟩ <;> simp [go_sem]
  have HR := Lib.hid (keepSt hW HR0.out)
  have HE := Lib.hid hWe
  clear hWe
  obtain ⟨⟨⟨B0, B1, B2, B3, B4, B5, B6⟩, _⟩, S0, S1⟩ := HX.out
  go_enter Tryz.func7, Tryz.ntmps7
  go_wp2_with fail
  rw [HE.out]
  go_wp2_with fail
  refine (HA.out _).mono ?_
  rintro e' w1 ⟨rfl, hb1⟩
  have HX1 : Hid (_ ∧ _ ∧ _) := ⟨HX.out.1.below hb1, keepCell hb1 HX.out.2.1, keepCell hb1 HX.out.2.2⟩
  have HR1 := Lib.hid (keepSt hb1 HR.out)
  have hB1 := keepBelow hW hb1
  clear hb1 B0 B1 B2 B3 B4 B5 B6 S0 S1 HX HR HE HA
  obtain ⟨⟨⟨B0, B1, B2, B3, B4, B5, B6⟩, _⟩, S0, S1⟩ := HX1.out
  go_wp2_with fail
  refine (HLG.out _ HR1.out).mono ?_
  rintro e' w2 ⟨rfl, hb2⟩
  have HX2 : Hid (_ ∧ _ ∧ _) := ⟨HX1.out.1.below hb2, keepCell hb2 HX1.out.2.1, keepCell hb2 HX1.out.2.2⟩
  have HR2 := Lib.hid (keepSt hb2 HR1.out)
  have hB2 := keepBelow hB1 hb2
  clear hb2 B0 B1 B2 B3 B4 B5 B6 S0 S1 HX1 HR1
  obtain ⟨⟨⟨B0, B1, B2, B3, B4, B5, B6⟩, _⟩, S0, S1⟩ := HX2.out
  cases lg with
  | true =>
    go_wp2
    go_ret
    exact ⟨rfl, hB2⟩
  | false =>
  go_wp2_with fail
  refine (K1.out _ HR2.out).mono ?_
  rintro e' w3 ⟨v1, rfl, ho, hb3⟩
  have HX3 : Hid (_ ∧ _ ∧ _) := ⟨HX2.out.1.below hb3, keepCell hb3 HX2.out.2.1, keepCell hb3 HX2.out.2.2⟩
  have HR3 := Lib.hid (keepSt hb3 HR2.out)
  have hB3 := keepBelow hB2 hb3
  have F1' := Lib.hid ho
  obtain ⟨i1, j1, rfl, _⟩ := ho.form
  clear ho
  clear hb3 B0 B1 B2 B3 B4 B5 B6 S0 S1 HX2 HR2
  obtain ⟨⟨⟨B0, B1, B2, B3, B4, B5, B6⟩, _⟩, S0, S1⟩ := HX3.out
  go_wp2_with fail
  refine (K2.out _ HR3.out).mono ?_
  rintro e' w4 ⟨v2, rfl, hr, hb4⟩
  have HX4 : Hid (_ ∧ _ ∧ _) := ⟨HX3.out.1.below hb4, keepCell hb4 HX3.out.2.1, keepCell hb4 HX3.out.2.2⟩
  have HR4 := Lib.hid (keepSt hb4 HR3.out)
  have hB4 := keepBelow hB3 hb4
  have F1' := Lib.hid (OwnS.below' hb4 F1'.out)
  have F2 := Lib.hid hr
  have hl1 : L1.length ≤ 8796093022208 := by obtain ⟨_, _, _, hl, _⟩ := hr; exact hl
  have F1 := Lib.hid (F1'.out.rd hl1)
  obtain ⟨i2, j2, rfl⟩ := hr.form
  clear hr F1' hl1
  clear hb4 B0 B1 B2 B3 B4 B5 B6 S0 S1 HX3 HR3
  obtain ⟨⟨⟨B0, B1, B2, B3, B4, B5, B6⟩, _⟩, S0, S1⟩ := HX4.out
  go_wp2_with fail
  refine (K3.out _ HR4.out).mono ?_
  rintro e' w5 ⟨v3, rfl, ho, hb5⟩
  have HX5 : Hid (_ ∧ _ ∧ _) := ⟨HX4.out.1.below hb5, keepCell hb5 HX4.out.2.1, keepCell hb5 HX4.out.2.2⟩
  have HR5 := Lib.hid (keepSt hb5 HR4.out)
  have hB5 := keepBelow hB4 hb5
  have F1 := Lib.hid (keepRd hb5 F1.out)
  have F2 := Lib.hid (keepRd hb5 F2.out)
  have F3 := Lib.hid (ownI_rdI ho (by omega))
  obtain ⟨i3, j3, rfl, _⟩ := ho.form
  clear ho
  clear hb5 B0 B1 B2 B3 B4 B5 B6 S0 S1 HX4 HR4
  obtain ⟨⟨⟨B0, B1, B2, B3, B4, B5, B6⟩, _⟩, S0, S1⟩ := HX5.out
  go_wp2_with fail
  refine (K4.out _ HR5.out).mono ?_
  rintro e' w6 ⟨v4, rfl, ho, hb6⟩
  have HX6 : Hid (_ ∧ _ ∧ _) := ⟨HX5.out.1.below hb6, keepCell hb6 HX5.out.2.1, keepCell hb6 HX5.out.2.2⟩
  have HR6 := Lib.hid (keepSt hb6 HR5.out)
  have hB6 := keepBelow hB5 hb6
  have F1 := Lib.hid (keepRd hb6 F1.out)
  have F2 := Lib.hid (keepRd hb6 F2.out)
  have F3 := Lib.hid (keepI hb6 F3.out)
  have F4 := Lib.hid (ownI_rdI ho (by omega))
  obtain ⟨i4, j4, rfl, _⟩ := ho.form
  clear ho
  clear hb6 B0 B1 B2 B3 B4 B5 B6 S0 S1 HX5 HR5
  obtain ⟨⟨⟨B0, B1, B2, B3, B4, B5, B6⟩, _⟩, S0, S1⟩ := HX6.out
  go_wp2_with fail
  refine (K5.out _ HR6.out).mono ?_
  rintro e' w7 ⟨v5, rfl, ho, hb7⟩
  have HX7 : Hid (_ ∧ _ ∧ _) := ⟨HX6.out.1.below hb7, keepCell hb7 HX6.out.2.1, keepCell hb7 HX6.out.2.2⟩
  have HR7 := Lib.hid (keepSt hb7 HR6.out)
  have hB7 := keepBelow hB6 hb7
  have F1 := Lib.hid (keepRd hb7 F1.out)
  have F2 := Lib.hid (keepRd hb7 F2.out)
  have F3 := Lib.hid (keepI hb7 F3.out)
  have F4 := Lib.hid (keepI hb7 F4.out)
  have F5 := Lib.hid (ho.rd (by omega))
  obtain ⟨i5, j5, rfl, _⟩ := ho.form
  clear ho
  clear hb7 B0 B1 B2 B3 B4 B5 B6 S0 S1 HX6 HR6
  obtain ⟨⟨⟨B0, B1, B2, B3, B4, B5, B6⟩, _⟩, S0, S1⟩ := HX7.out
  go_wp2_with fail
  refine (K6.out _ HR7.out).mono ?_
  rintro e' w8 ⟨v6, rfl, ho, hb8⟩
  have HX8 : Hid (_ ∧ _ ∧ _) := ⟨HX7.out.1.below hb8, keepCell hb8 HX7.out.2.1, keepCell hb8 HX7.out.2.2⟩
  have HR8 := Lib.hid (keepSt hb8 HR7.out)
  have hB8 := keepBelow hB7 hb8
  have F1 := Lib.hid (keepRd hb8 F1.out)
  have F2 := Lib.hid (keepRd hb8 F2.out)
  have F3 := Lib.hid (keepI hb8 F3.out)
  have F4 := Lib.hid (keepI hb8 F4.out)
  have F5 := Lib.hid (keepRd hb8 F5.out)
  have F6 := Lib.hid (ho.rd (by omega))
  obtain ⟨i6, j6, rfl, _⟩ := ho.form
  clear ho
  clear hb8 B0 B1 B2 B3 B4 B5 B6 S0 S1 HX7 HR7
  obtain ⟨⟨⟨B0, B1, B2, B3, B4, B5, B6⟩, _⟩, S0, S1⟩ := HX8.out
  have t1 : (r1 == r1) = true := by simp
  have t3 : (r3 == r3) = true := by simp
  have t5 : (r5 == r5) = true := by simp
  have Q1 := Lib.hid (HQS.out _ _ _ _ F1.out F2.out)
  go_wp2_with fail
  refine Q1.out.mono ?_
  rintro e' w9 ⟨rfl, hb9⟩
  have hB9 := keepBelow hB8 hb9
  have Q3 := Lib.hid (HQI.out _ _ _ _ (keepI hb9 F3.out) (keepI hb9 F4.out))
  have F5 := Lib.hid (keepRd hb9 F5.out)
  have F6 := Lib.hid (keepRd hb9 F6.out)
  clear hb9 Q1 F1 F2 F3 F4
  go_wp2_with fail
  refine Q3.out.mono ?_
  rintro e' w10 ⟨rfl, hb10⟩
  have hB10 := keepBelow hB9 hb10
  have Q5 := Lib.hid (HQS.out _ _ _ _ (keepRd hb10 F5.out) (keepRd hb10 F6.out))
  clear hb10 Q3 F5 F6
  go_wp2_with fail
  refine Q5.out.mono ?_
  rintro e' w11 ⟨rfl, hb11⟩
  have hB11 := keepBelow hB10 hb11
  go_wp2
  go_ret
  exact ⟨rfl, hB11⟩
end Go.Proofs.YtkfonfheakpcbaaGreat
