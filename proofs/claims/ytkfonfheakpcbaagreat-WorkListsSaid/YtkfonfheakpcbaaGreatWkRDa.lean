import Derived.Test.YtkfonfheakpcbaaGreatWkRPa
import Derived.Test.YtkfonfheakpcbaaGreatWkDay
/- The reference's Days. -/
namespace Go.Proofs.YtkfonfheakpcbaaGreat
open Go.RowKit Wk

set_option maxRecDepth 100000 in
set_option maxHeartbeats 4000000 in
theorem days26_any (s : St) (vl vr vv : Value) (f t least : Int) (w : World) (h : RdSt w s vl vr vv) :
    Calls Tryz.prog 29 #[.agg #[.int .i64 s.lf.1, vl, .int .i64 s.rt.1, vr, .int .i64 s.fr, .int .i64 s.to, vv], .agg #[.int .i64 f, .int .i64 t], .int .i64 least] w (DaPost (VB s) s f t least w) := by
  have HV := Lib.hid (fun W h => valid14_any s vl vr vv W h)
  have HI := Lib.hid (fun W => valid10_any f t W)
  have HFL : Hid (∀ x W, -8796093022208 ≤ x → x ≤ 8796093022208 → Calls Tryz.prog 55 #[.int .i64 x, .int .i64 86400] W fun e w' => e = .returned (.int .i64 (x / 86400)) ∧ Below W.heap.size W w') := fun x W h1 h2 => rfloor_any x 86400 W (by omega) (by omega) (by omega) (by omega)
  have HC : Hid (VB s = true → ∀ a b W, RdSt W s vl vr vv → a ≤ b → -8796093022208 ≤ a → b ≤ 8796093022208 → Calls Tryz.prog 54 #[.agg #[.int .i64 s.lf.1, vl, .int .i64 s.rt.1, vr, .int .i64 s.fr, .int .i64 s.to, vv], .int .i64 a, .int .i64 b] W fun e w' => e = .returned (.int .i64 (cnt s a b)) ∧ Below W.heap.size W w') := fun hg a b W h h1 h2 h3 => by rw [cnt_pot s (okS_of_VB hg).ft a b h1]; exact count26_any s vl vr vv a b W h (okS_of_VB hg) h1 h2 h3
  generalize VB s = vb at *
  obtain ⟨iv, hiv⟩ : ∃ iv, ivB (f, t) = iv := ⟨_, rfl⟩
  rw [hiv] at HI
  have HIV := Lib.hid hiv
  clear hiv

  have HR0 := Lib.hid h
  obtain ⟨a1, n1, rfl⟩ := h.1.form
  obtain ⟨a2, n2, rfl⟩ := h.2.1.form
  obtain ⟨a3, n3, rfl⟩ := h.2.2.form
  clear h
  obtain ⟨W, hWe⟩ : ∃ W, (w.alloc (.cells #[.int .i64 s.lf.1, .slice a1 s.lf.2.length n1, .int .i64 s.rt.1, .slice a2 s.rt.2.length n2, .int .i64 s.fr, .int .i64 s.to, .slice a3 s.l.length n3] 26)).alloc (.cells #[.int .i64 f, .int .i64 t] 44) = W := ⟨_, rfl⟩
  have hW : Below w.heap.size w W := by rw [← hWe]; exact ((Below.refl _ w).alloc (Nat.le_refl _) _).alloc (by simp) _
  have HX : Hid (Set7 W w.heap.size (.int .i64 s.lf.1) (.slice a1 s.lf.2.length n1) (.int .i64 s.rt.1) (.slice a2 s.rt.2.length n2) (.int .i64 s.fr) (.int .i64 s.to) (.slice a3 s.l.length n3) ∧ W.cell? ⟨w.heap.size + 1, 0, none⟩ = some (.int .i64 f) ∧ W.cell? ⟨w.heap.size + 1, 1, none⟩ = some (.int .i64 t)) := by
    rw [← hWe]
    refine ⟨⟨⟨?_, ?_, ?_, ?_, ?_, ?_, ?_⟩, ?_, ?_, ?_, ?_, ?_, ?_, ?_⟩, ?_, ?_⟩ <;> simp [go_sem]
  have HR := Lib.hid (keepSt hW HR0.out)
  have HE := Lib.hid hWe
  clear hWe HR0
  obtain ⟨⟨⟨B0, B1, B2, B3, B4, B5, B6⟩, _⟩, S0, S1⟩ := HX.out
  go_enter Tryz.func29, Tryz.ntmps29
  go_wp2_with fail
  rw [HE.out]

  go_wp2_with fail
  refine (HV.out _ HR.out).mono ?_
  rintro e w1 ⟨rfl, hb1⟩
  have HX1 : Hid (_ ∧ _ ∧ _) := ⟨HX.out.1.below hb1, keepCell hb1 HX.out.2.1, keepCell hb1 HX.out.2.2⟩
  have HR1 := Lib.hid (keepSt hb1 HR.out)
  have hB1 := keepBelow hW hb1
  clear hb1 B0 B1 B2 B3 B4 B5 B6 S0 S1 HX HR HE HV
  obtain ⟨⟨⟨B0, B1, B2, B3, B4, B5, B6⟩, _⟩, S0, S1⟩ := HX1.out

  cases vb with
  | false =>
    have HQ : Hid (daysM false s f t least = ([], 1)) := by unfold Hid daysM; rw [if_pos (.inl rfl)]
    go_wp2
    go_ret2
    exact ⟨.slice none 0 0, by rw [HQ.out]; rfl, by rw [HQ.out]; exact OwnI.nil _ _, hB1⟩

  | true =>
  go_wp2_with fail
  refine (HI.out _).mono ?_
  rintro e w2 ⟨rfl, hb2⟩
  have HX2 : Hid (_ ∧ _ ∧ _) := ⟨HX1.out.1.below hb2, keepCell hb2 HX1.out.2.1, keepCell hb2 HX1.out.2.2⟩
  have HR2 := Lib.hid (keepSt hb2 HR1.out)
  have hB2 := keepBelow hB1 hb2
  clear hb2 B0 B1 B2 B3 B4 B5 B6 S0 S1 HX1 HR1 HI
  obtain ⟨⟨⟨B0, B1, B2, B3, B4, B5, B6⟩, _⟩, S0, S1⟩ := HX2.out

  cases iv with
  | false =>
    have HQ : Hid (daysM true s f t least = ([], 1)) := by unfold Hid daysM; rw [if_pos (.inr HIV.out)]
    go_wp2
    go_ret2
    exact ⟨.slice none 0 0, by rw [HQ.out]; rfl, by rw [HQ.out]; exact OwnI.nil _ _, hB2⟩

  | true =>
  have hivb := (ivB_iff (f, t)).1 HIV.out
  simp only at hivb
  have HO1 : Hid (¬ (true = false ∨ ivB (f, t) = false)) := by unfold Hid; rw [HIV.out]; simp
  by_cases hl0 : least < 1
  · have g1 : decide (least < 1) = true := by simpa using hl0
    have HQ : Hid (daysM true s f t least = ([], 2)) := by unfold Hid daysM; rw [if_neg HO1.out, if_pos (.inl hl0)]
    go_wp2
    go_ret2
    exact ⟨.slice none 0 0, by rw [HQ.out]; rfl, by rw [HQ.out]; exact OwnI.nil _ _, hB2⟩

  have g1 : decide (least < 1) = false := by simpa using hl0
  by_cases hl1 : 86400 < least
  · have g2 : decide (86400 < least) = true := by simpa using hl1
    have HQ : Hid (daysM true s f t least = ([], 2)) := by unfold Hid daysM; rw [if_neg HO1.out, if_pos (.inr hl1)]
    go_wp2
    go_ret2
    exact ⟨.slice none 0 0, by rw [HQ.out]; rfl, by rw [HQ.out]; exact OwnI.nil _ _, hB2⟩

  have g2 : decide (86400 < least) = false := by simpa using hl1
  have HO2 : Hid (¬ (least < 1 ∨ 86400 < least)) := by unfold Hid; omega
  have KF := HFL.out f
  have KT := HFL.out (t - 1)
  have hmf := mod_lo f (P := 86400) (by omega)
  have hmt := mod_lo (t - 1) (P := 86400) (by omega)
  have HDQ : Hid (daysM true s f t least = if 1000 ≤ (t - 1) / 86400 - f / 86400 then ([], 5) else (daysL s f t least (f / 86400) ((t - 1) / 86400 - f / 86400 + 1).toNat, 0)) := by
    unfold Hid daysM; rw [if_neg HO1.out, if_neg HO2.out]
  obtain ⟨d0, hd0⟩ : ∃ d, f / 86400 = d := ⟨_, rfl⟩
  obtain ⟨d1, hd1⟩ : ∃ d, (t - 1) / 86400 = d := ⟨_, rfl⟩
  rw [hd0] at KF HDQ hmf
  rw [hd1] at KT HDQ hmt
  have KF := Lib.hid (fun W => KF W (by omega) (by omega))
  have KT := Lib.hid (fun W => KT W (by omega) (by omega))
  have s1 : IntKind.i64.wrap (t - 1) = t - 1 := by rw [IntKind.wrap_i64]; omega
  have s2 : IntKind.i64.wrap (d1 - d0) = d1 - d0 := by rw [IntKind.wrap_i64]; omega
  have s3 : IntKind.i64.wrap (d1 - d0 + 1) = d1 - d0 + 1 := by rw [IntKind.wrap_i64]; omega
  clear hd0 hd1 HFL
  have e0 := ext_cell S0
  have e1 := ext_cell S1
  go_wp2_with fail
  refine wp_region_ext (by kernel_rfl) (by kernel_rfl) ?_
  iterate 9 (go_big_quiet_step ((first | (go_at_call_of 55 (Value.int IntKind.i64 f); refine calls_ext (KF.out _)) | (go_at_call 55; refine calls_ext (KT.out _)))))
  refine wpQuiet_nil ?_
  intro w3 hb3
  have HX3 : Hid (_ ∧ _ ∧ _) := ⟨HX2.out.1.below hb3, keepCell hb3 HX2.out.2.1, keepCell hb3 HX2.out.2.2⟩
  have HR3 := Lib.hid (keepSt hb3 HR2.out)
  have hB3 := keepBelow hB2 hb3
  clear hb3 B0 B1 B2 B3 B4 B5 B6 S0 S1 HX2 HR2 
  obtain ⟨⟨⟨B0, B1, B2, B3, B4, B5, B6⟩, _⟩, S0, S1⟩ := HX3.out

  clear e0 e1
  by_cases hfull : 1000 ≤ d1 - d0
  · have g3 : decide (1000 < d1 - d0 + 1) = true := by simp; omega
    have HQ : Hid (daysM true s f t least = ([], 5)) := by have := HDQ.out; rw [if_pos hfull] at this; exact this
    go_wp2
    go_ret2
    exact ⟨.slice none 0 0, by rw [HQ.out]; rfl, by rw [HQ.out]; exact OwnI.nil _ _, hB3⟩

  have g3 : decide (1000 < d1 - d0 + 1) = false := by simp; omega
  have HQ : Hid (daysM true s f t least = (daysL s f t least d0 (d1 - d0 + 1).toNat, 0)) := by have := HDQ.out; rw [if_neg hfull] at this; exact this
  have HCC := Lib.hid (HC.out (by first | rfl | trivial))
  have hws := hB3.size
  clear HDQ HC HO1 HO2 KF KT
  go_wp2_with fail
  go_loopw [10, 11] (fun u x wr => ∃ k : Nat, x = .int .i64 (d0 + k) ∧ (k : Int) ≤ d1 - d0 + 1 ∧ OwnI wr w3.heap.size u (daysL s f t least d0 k) ∧ Below w3.heap.size w3 wr) (fun _ x _ => (d1 + 1 - intOf x).toNat)
  case atStart => exact ⟨0, by simp, by omega, OwnI.nil _ _, Below.refl _ _⟩
  case round =>
    obtain ⟨k, rfl, hk, ho, hB⟩ := hrel
    have hln := days_len s f t least d0 k
    obtain ⟨⟨⟨C0, C1, C2, C3, C4, C5, C6⟩, _⟩, R0, R1⟩ : _ ∧ _ ∧ _ := ⟨HX3.out.1.below hB, keepCell hB HX3.out.2.1, keepCell hB HX3.out.2.2⟩
    have HRr := Lib.hid (keepSt hB HR3.out)
    by_cases hle : d0 + (k : Int) ≤ d1
    · have q1 : IntKind.i64.wrap ((d0 + (k : Int)) * 86400) = (d0 + (k : Int)) * 86400 := by rw [IntKind.wrap_i64]; omega
      have q2 : IntKind.i64.wrap (d0 + (k : Int) + 1) = d0 + (k : Int) + 1 := by rw [IntKind.wrap_i64]; omega
      have q3 : IntKind.i64.wrap ((d0 + (k : Int) + 1) * 86400) = (d0 + (k : Int) + 1) * 86400 := by rw [IntKind.wrap_i64]; omega
      have g4 : decide (d0 + (k : Int) ≤ d1) = true := by simpa using hle
      have HCk := HCC.out (max f ((d0 + (k : Int)) * 86400)) (min t ((d0 + (k : Int) + 1) * 86400)) _ HRr.out (by omega) (by omega) (by omega)
      have HD : Hid (daysL s f t least d0 (k + 1) = daysL s f t least d0 k ++ (if least ≤ cnt s (max f ((d0 + (k : Int)) * 86400)) (min t ((d0 + (k : Int) + 1) * 86400)) then [d0 + (k : Int)] else [])) := rfl
      obtain ⟨kc, hkc⟩ : ∃ kc, cnt s (max f ((d0 + (k : Int)) * 86400)) (min t ((d0 + (k : Int) + 1) * 86400)) = kc := ⟨_, rfl⟩
      rw [hkc] at HCk HD
      have HCk := Lib.hid HCk
      clear hkc
      obtain ⟨av, nv, rfl, _⟩ := ho.form
      by_cases hge : least ≤ kc
      · have g5 : decide (least ≤ kc) = true := by simpa using hge
        have HD2 : Hid (daysL s f t least d0 (k + 1) = daysL s f t least d0 k ++ [d0 + (k : Int)]) := by unfold Hid; rw [HD.out, if_pos hge]
        clear HD
        go_wp2_with fail
        refine HCk.out.mono ?_
        rintro e w4 ⟨rfl, hb4⟩
        have hB4 := keepBelow hB hb4
        have ho4 := ho.below hb4
        clear hb4 C0 C1 C2 C3 C4 C5 C6 R0 R1
        go_wp2_with (at_builtin; refine wpList_app_int rfl (.tmp 59) (.tmp 61) rfl rfl ho4 hB4 rfl rfl (by omega) ?_; intro v1 w5 o1 b1 k1 z1; clear k1)
        go_roundw
        case rel => exact ⟨k + 1, by go_num, by omega, by rw [HD2.out]; exact o1, b1⟩
        case measure => simp [intOf]; omega
      · have g5 : decide (least ≤ kc) = false := by simpa using hge
        have HD2 : Hid (daysL s f t least d0 (k + 1) = daysL s f t least d0 k) := by unfold Hid; rw [HD.out, if_neg hge, List.append_nil]
        clear HD
        go_wp2_with fail
        refine HCk.out.mono ?_
        rintro e w4 ⟨rfl, hb4⟩
        have hB4 := keepBelow hB hb4
        have ho4 := ho.below hb4
        clear hb4 C0 C1 C2 C3 C4 C5 C6 R0 R1
        go_wp2
        go_roundw
        case rel => exact ⟨k + 1, by go_num, by omega, by rw [HD2.out]; exact ho4, hB4⟩
        case measure => simp [intOf]; omega
    · have g4 : decide (d0 + (k : Int) ≤ d1) = false := by simpa using hle
      have hkN : (d1 - d0 + 1).toNat = k := by omega
      have HQ2 : Hid (daysM true s f t least = (daysL s f t least d0 k, 0)) := by unfold Hid; rw [HQ.out, hkN]
      obtain ⟨av, nv, rfl, _⟩ := ho.form
      clear hkN
      go_wp2
      go_ret2
      exact ⟨_, by rw [HQ2.out]; rfl, by rw [HQ2.out]; exact ho.mono hws, keepBelow hB3 hB⟩
end Go.Proofs.YtkfonfheakpcbaaGreat
