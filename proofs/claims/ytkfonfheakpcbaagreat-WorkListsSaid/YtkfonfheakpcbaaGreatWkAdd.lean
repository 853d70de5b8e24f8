import Derived.Test.YtkfonfheakpcbaaGreatWkLst
import Derived.Test.YtkfonfheakpcbaaGreatWkCnt
import Derived.Test.YtkfonfheakpcbaaGreatWkPl
/- work.add. -/
namespace Go.Proofs.YtkfonfheakpcbaaGreat
open Go.RowKit Wk

set_option maxRecDepth 100000 in
set_option maxHeartbeats 4000000 in
theorem wadd_any (s : St) (vl vr vv : Value) (t n : Int) (w : World) (h : RdSt w s vl vr vv) (hs : OkS s) (ht1 : -4398046511104 ≤ t) (ht2 : t ≤ 4398046511104) (hn1 : 0 ≤ n) (hn2 : n ≤ 8796093022208) :
    Calls Tryz.prog 42 #[.agg #[.int .i64 s.lf.1, vl, .int .i64 s.rt.1, vr, .int .i64 s.fr, .int .i64 s.to, vv], .int .i64 t, .int .i64 n] w fun e w' => e = .returned (.tuple #[.int .i64 (addM s t n).1, .int .i64 (addM s t n).2]) ∧ Below w.heap.size w w' := by
  have HRL : Hid (∀ x W, RdS W vl s.lf.2 → -8796093022208 ≤ x → x ≤ 8796093022208 → Calls Tryz.prog 57 #[.agg #[.int .i64 s.lf.1, vl], .int .i64 x] W fun e w' => e = .returned (.int .i64 (rankP s.lf x)) ∧ Below W.heap.size W w') := fun x W h h1 h2 => wrank_any s.lf.1 x vl s.lf.2 W h hs.lf h1 h2
  have HRR : Hid (∀ x W, RdS W vr s.rt.2 → -8796093022208 ≤ x → x ≤ 8796093022208 → Calls Tryz.prog 57 #[.agg #[.int .i64 s.rt.1, vr], .int .i64 x] W fun e w' => e = .returned (.int .i64 (rankP s.rt x)) ∧ Below W.heap.size W w') := fun x W h h1 h2 => wrank_any s.rt.1 x vr s.rt.2 W h hs.rt h1 h2
  have HRM : Hid (∀ x W, RdS W vv s.l → Calls Tryz.prog 59 #[vv, .int .i64 x] W fun e w' => e = .returned (.int .i64 (rank s.l x)) ∧ Below W.heap.size W w') := fun x W h => rrank_any vv s.l x W h hs.l
  have HNL : Hid (∀ x W, RdS W vl s.lf.2 → 0 < meas s.lf.2 → -8796093022208 ≤ nthP s.lf x → nthP s.lf x ≤ 8796093022208 → Calls Tryz.prog 56 #[.agg #[.int .i64 s.lf.1, vl], .int .i64 x] W fun e w' => e = .returned (.int .i64 (nthP s.lf x)) ∧ Below W.heap.size W w') := fun x W h h0 h1 h2 => wnth_any s.lf.1 x vl s.lf.2 W h hs.lf h0 h1 h2
  have HNR : Hid (∀ x W, RdS W vr s.rt.2 → 0 < meas s.rt.2 → -8796093022208 ≤ nthP s.rt x → nthP s.rt x ≤ 8796093022208 → Calls Tryz.prog 56 #[.agg #[.int .i64 s.rt.1, vr], .int .i64 x] W fun e w' => e = .returned (.int .i64 (nthP s.rt x)) ∧ Below W.heap.size W w') := fun x W h h0 h1 h2 => wnth_any s.rt.1 x vr s.rt.2 W h hs.rt h0 h1 h2
  have HNM : Hid (∀ x W, RdS W vv s.l → 0 ≤ x → x < meas s.l → Calls Tryz.prog 58 #[vv, .int .i64 x] W fun e w' => e = .returned (.tuple #[.int .i64 (nth s.l x), .int .i64 0]) ∧ Below W.heap.size W w') := fun x W h h0 h1 => rnth_any vv s.l x W h hs.l h0 h1
  have HC : Hid (∀ a b W, RdSt W s vl vr vv → -4398046511104 ≤ a → a ≤ 4398046511104 → -4398046511104 ≤ b → b ≤ 4398046511104 → Calls Tryz.prog 51 #[.agg #[.int .i64 s.lf.1, vl, .int .i64 s.rt.1, vr, .int .i64 s.fr, .int .i64 s.to, vv], .int .i64 a, .int .i64 b] W fun e w' => e = .returned (.int .i64 (cnt s a b)) ∧ Below W.heap.size W w') := fun a b W h h1 h2 h3 h4 => wcount_any s vl vr vv a b W h hs h1 h2 h3 h4
  have HGS := Lib.hid hs.good
  have HGL : Hid (∀ x, (0 ≤ x → 0 ≤ rankP s.lf x ∧ rankP s.lf x ≤ x) ∧ (x ≤ 0 → x ≤ rankP s.lf x ∧ rankP s.lf x ≤ 0)) := fun x => rankP_bd hs.good.lf x
  have HGR : Hid (∀ x, (0 ≤ x → 0 ≤ rankP s.rt x ∧ rankP s.rt x ≤ x) ∧ (x ≤ 0 → x ≤ rankP s.rt x ∧ rankP s.rt x ≤ 0)) := fun x => rankP_bd hs.good.rt x
  have HGM : Hid (∀ x, 0 ≤ rank s.l x ∧ rank s.l x ≤ s.l.length * 8796093022208) := fun x => rank_bd (l := s.l) x (canon_of_rvB hs.l).2.1
  have hlen := (canon_of_rvB hs.l).2.2
  have hf1 := hs.f1
  have hft := hs.ft
  have hto1 := hs.t1
  clear hs
  have HR0 := Lib.hid h
  obtain ⟨a1, n1, rfl⟩ := h.1.form
  obtain ⟨a2, n2, rfl⟩ := h.2.1.form
  obtain ⟨a3, n3, rfl⟩ := h.2.2.form
  clear h
  obtain ⟨W, hWe⟩ : ∃ W, w.alloc (.cells #[.int .i64 s.lf.1, .slice a1 s.lf.2.length n1, .int .i64 s.rt.1, .slice a2 s.rt.2.length n2, .int .i64 s.fr, .int .i64 s.to, .slice a3 s.l.length n3] 26) = W := ⟨_, rfl⟩
  have hW : Below w.heap.size w W := by rw [← hWe]; exact (Below.refl _ w).alloc (Nat.le_refl _) _
  have HX : Hid (Set7 W w.heap.size (.int .i64 s.lf.1) (.slice a1 s.lf.2.length n1) (.int .i64 s.rt.1) (.slice a2 s.rt.2.length n2) (.int .i64 s.fr) (.int .i64 s.to) (.slice a3 s.l.length n3)) := by
    rw [← hWe]
    refine ⟨⟨?_, ?_, ?_, ?_, ?_, ?_, ?_⟩, ?_, ?_, ?_, ?_, ?_, ?_, ?_⟩ <;> simp [go_sem]
  have HR := Lib.hid (keepSt hW HR0.out)
  have HE := Lib.hid hWe
  clear hWe HR0
  obtain ⟨⟨B0, B1, B2, B3, B4, B5, B6⟩, _⟩ := HX.out
  by_cases hn0 : n = 0
  · subst hn0
    go_enter Tryz.func42, Tryz.ntmps42
    go_wp2_with fail
    rw [HE.out]

    go_ret2
    exact ⟨by rw [addM_zero]; rfl, hW⟩
  have g0 : (n == 0) = false := by simpa using hn0
  go_enter Tryz.func42, Tryz.ntmps42
  go_wp2_with fail
  rw [HE.out]

  go_wp2_with fail
  refine (HC.out t 4398046511104 _ HR.out ht1 ht2 (by omega) (by omega)).mono ?_
  rintro e w1 ⟨rfl, hb1⟩
  have HX1 := Lib.hid (HX.out.below hb1)
  have HR1 := Lib.hid (keepSt hb1 HR.out)
  have hB1 := keepBelow hW hb1
  clear hb1 B0 B1 B2 B3 B4 B5 B6 HX HR HE
  obtain ⟨⟨B0, B1, B2, B3, B4, B5, B6⟩, _⟩ := HX1.out

  have hpot := cnt_pot s HGS.out.ft t 4398046511104 ht2
  obtain ⟨kT, hkT⟩ : ∃ kT, cnt s t 4398046511104 = kT := ⟨_, rfl⟩
  rw [hkT] at hpot ⊢
  by_cases hk : kT < n
  · have HQ : Hid (addM s t n = (0, 7)) := by unfold Hid addM; rw [if_neg hn0, hkT, if_pos hk]
    have gk : decide (kT < n) = true := by simpa using hk
    clear hkT
    go_wp2
    go_ret2
    exact ⟨by rw [HQ.out]; rfl, hB1⟩
  have HQ : Hid (addM s t n = (addLf s t n, 0)) := by unfold Hid addM; rw [if_neg hn0, hkT, if_neg hk]
  have gk : decide (kT < n) = false := by simpa using hk
  have hnp : 0 < n := by omega
  clear hkT hn0
  have HPT : Hid (n ≤ potS s 4398046511104 - potS s t) := by unfold Hid; omega
  clear hpot
  go_upto_if 23 with fail
  go_cut [1, 2, 8] from 12 to 47 (fun u v _ wx => ∃ t' n', u = .int .i64 t' ∧ v = .int .i64 n' ∧ Hid (addLf s t n = addMid s t' n') ∧ s.fr ≤ t' ∧ t' ≤ 4398046511104 ∧ 0 < n' ∧ n' ≤ 8796093022208 ∧ Hid (n' ≤ potS s 4398046511104 - potS s t') ∧ Below w1.heap.size w1 wx)
  case first =>
    by_cases h1 : t < s.fr
    · have g1 : decide (t < s.fr) = true := by simpa using h1
      go_wp2_with fail
      refine (HC.out t s.fr _ HR1.out ht1 ht2 (by omega) (by omega)).mono ?_
      rintro e w2 ⟨rfl, hb2⟩
      have HB2 := Lib.hid hb2
      have HX2 := Lib.hid (HX1.out.below hb2)
      have HR2 := Lib.hid (keepSt hb2 HR1.out)
      have hB2 := keepBelow hB1 hb2
      clear hb2 B0 B1 B2 B3 B4 B5 B6 HX1 HR1 
      obtain ⟨⟨B0, B1, B2, B3, B4, B5, B6⟩, _⟩ := HX2.out

      have hpot := cnt_pot s HGS.out.ft t s.fr (by omega)
      have hmono := ((potS_steps HGS.out).mono t s.fr (by omega))
      by_cases h2 : n ≤ cnt s t s.fr
      · have hin := in_lf HGS.out h1 (by omega) h2
        have HV : Hid (addLf s t n = nthP s.lf (rankP s.lf t + n - 1) + 1) := by unfold Hid addLf; rw [if_pos h1, if_pos h2]
        obtain ⟨kL, hkL⟩ : ∃ kL, cnt s t s.fr = kL := ⟨_, rfl⟩
        rw [hkL] at h2 ⊢
        have g2 : decide (n ≤ kL) = true := by simpa using h2
        clear hkL hpot hmono
        have kb := HGL.out t
        have KX := fun W hh => HRL.out t W hh (by omega) (by omega)
        have KY := fun W hh => HNL.out (rankP s.lf t + n - 1) W hh hin.1 (by omega) (by omega)
        obtain ⟨rk, hrk⟩ : ∃ rk, rankP s.lf t = rk := ⟨_, rfl⟩
        rw [hrk] at KX KY kb hin
        obtain ⟨nv, hnv⟩ : ∃ nv, nthP s.lf (rk + n - 1) = nv := ⟨_, rfl⟩
        rw [hnv] at KY hin
        have HRK := Lib.hid hrk
        have HNV := Lib.hid hnv
        have KX := Lib.hid KX
        have KY := Lib.hid KY
        clear hrk hnv
        have s1 : IntKind.i64.wrap (rk + n) = rk + n := by rw [IntKind.wrap_i64]; omega
        have s2 : IntKind.i64.wrap (rk + n - 1) = rk + n - 1 := by rw [IntKind.wrap_i64]; omega
        have s3 : IntKind.i64.wrap (nv + 1) = nv + 1 := by rw [IntKind.wrap_i64]; omega
        have e0 := ext_cell B0
        have e1 := ext_cell B1
        have e2 := ext_cell B2
        have e3 := ext_cell B3
        have e4 := ext_cell B4
        have e5 := ext_cell B5
        have e6 := ext_cell B6
        have ER := Lib.hid (ext_rd HR2.out.1)
        clear HRL HRR HRM HNL HNR HNM HC
        go_wp2_with fail
        refine wp_region_ext (by kernel_rfl) (by kernel_rfl) ?_
        iterate 13 (go_big_quiet_step ((first | (go_at_call 57; refine calls_ext (KX.out _ (ER.out _))) | (go_at_call 56; refine calls_ext (KY.out _ (ER.out _))))))
        refine wpQuiet_nil ?_
        intro wq hbq
        go_wp2
        go_ret2
        exact ⟨by rw [HQ.out, HV.out, HRK.out, HNV.out]; rfl, keepBelow hB2 hbq⟩

      · have HV : Hid (addLf s t n = addMid s s.fr (n - cnt s t s.fr)) := by unfold Hid addLf; rw [if_pos h1, if_neg h2]
        have HPF : Hid (n - cnt s t s.fr ≤ potS s 4398046511104 - potS s s.fr) := by unfold Hid; have := HPT.out; omega
        obtain ⟨kL, hkL⟩ : ∃ kL, cnt s t s.fr = kL := ⟨_, rfl⟩
        rw [hkL] at h2 hpot HV HPF ⊢
        have g2 : decide (n ≤ kL) = false := by simpa using h2
        have s1 : IntKind.i64.wrap (n - kL) = n - kL := by rw [IntKind.wrap_i64]; omega
        have hkp : 0 ≤ kL := by omega
        clear hkL hpot hmono
        go_wp2_with fail
        go_meet
        case rel => exact ⟨s.fr, n - kL, rfl, rfl, HV, Int.le_refl _, by omega, by omega, by omega, HPF, HB2.out⟩
    · have g1 : decide (t < s.fr) = false := by simpa using h1
      have HV : Hid (addLf s t n = addMid s t n) := by unfold Hid addLf; rw [if_neg h1]
      go_wp2_with fail
      go_meet
      case rel => exact ⟨t, n, rfl, rfl, HV, by omega, ht2, by omega, hn2, HPT, Below.refl _ _⟩
  case rest =>
  obtain ⟨t', n', rfl, rfl, HV1, hq1, hq2, hq3, hq4, HPT1, hb3⟩ := hcut
  have HX3 := Lib.hid (HX1.out.below hb3)
  have HR3 := Lib.hid (keepSt hb3 HR1.out)
  have hB3 := keepBelow hB1 hb3
  clear hb3 B0 B1 B2 B3 B4 B5 B6 HX1 HR1 
  obtain ⟨⟨B0, B1, B2, B3, B4, B5, B6⟩, _⟩ := HX3.out

  generalize wc = w3 at *
  clear HPT hk gk ht1 ht2 hn1 hn2
  go_upto_if 51 with fail
  go_cut [1, 2, 9, 10, 11] from 48 to 79 (fun u v _ _ _ wx => ∃ t'' n'', u = .int .i64 t'' ∧ v = .int .i64 n'' ∧ Hid (addLf s t n = addR s t'' n'') ∧ s.to ≤ t'' ∧ t'' ≤ 4398046511104 ∧ 0 < n'' ∧ n'' ≤ 8796093022208 ∧ Hid (n'' ≤ potS s 4398046511104 - potS s t'') ∧ Below w3.heap.size w3 wx)
  case first =>
    by_cases h1 : t' < s.to
    · have g1 : decide (t' < s.to) = true := by simpa using h1
      go_wp2_with fail
      refine (HC.out t' s.to _ HR3.out (by omega) (by omega) (by omega) (by omega)).mono ?_
      rintro e w4 ⟨rfl, hb4⟩
      have HB4 := Lib.hid hb4
      have HX4 := Lib.hid (HX3.out.below hb4)
      have HR4 := Lib.hid (keepSt hb4 HR3.out)
      have hB4 := keepBelow hB3 hb4
      clear hb4 B0 B1 B2 B3 B4 B5 B6 HX3 HR3 
      obtain ⟨⟨B0, B1, B2, B3, B4, B5, B6⟩, _⟩ := HX4.out

      have hpot := cnt_pot s HGS.out.ft t' s.to (by omega)
      have hmono := ((potS_steps HGS.out).mono t' s.to (by omega))
      by_cases h2 : n' ≤ cnt s t' s.to
      · have hin := in_mid HGS.out hq1 h1 (by omega) h2
        have HV : Hid (addMid s t' n' = nth s.l (rank s.l t' + n' - 1) + 1) := by unfold Hid addMid; rw [if_pos h1, if_pos h2]
        obtain ⟨kL, hkL⟩ : ∃ kL, cnt s t' s.to = kL := ⟨_, rfl⟩
        rw [hkL] at h2 ⊢
        have g2 : decide (n' ≤ kL) = true := by simpa using h2
        clear hkL hpot hmono
        have kb := HGM.out t'
        have KX := HRM.out t'
        have KY := fun W hh => HNM.out (rank s.l t' + n' - 1) W hh hin.1 hin.2.1
        obtain ⟨rk, hrk⟩ : ∃ rk, rank s.l t' = rk := ⟨_, rfl⟩
        rw [hrk] at KX KY kb hin
        obtain ⟨nv, hnv⟩ : ∃ nv, nth s.l (rk + n' - 1) = nv := ⟨_, rfl⟩
        rw [hnv] at KY hin
        have HRK := Lib.hid hrk
        have HNV := Lib.hid hnv
        have KX := Lib.hid KX
        have KY := Lib.hid KY
        clear hrk hnv
        have s1 : IntKind.i64.wrap (rk + n') = rk + n' := by rw [IntKind.wrap_i64]; omega
        have s2 : IntKind.i64.wrap (rk + n' - 1) = rk + n' - 1 := by rw [IntKind.wrap_i64]; omega
        have s3 : IntKind.i64.wrap (nv + 1) = nv + 1 := by rw [IntKind.wrap_i64]; omega
        have e0 := ext_cell B0
        have e1 := ext_cell B1
        have e2 := ext_cell B2
        have e3 := ext_cell B3
        have e4 := ext_cell B4
        have e5 := ext_cell B5
        have e6 := ext_cell B6
        have ER := Lib.hid (ext_rd HR4.out.2.2)
        clear HRL HRR HRM HNL HNR HNM HC
        go_wp2_with fail
        refine wp_region_ext (by kernel_rfl) (by kernel_rfl) ?_
        iterate 15 (go_big_quiet_step ((first | (go_at_call 59; refine calls_ext (KX.out _ (ER.out _))) | (go_at_call 58; refine calls_ext (KY.out _ (ER.out _))))))
        refine wpQuiet_nil ?_
        intro wq hbq
        go_wp2
        go_ret2
        exact ⟨by rw [HQ.out, HV1.out, HV.out, HRK.out, HNV.out]; rfl, keepBelow hB4 hbq⟩

      · have HV : Hid (addMid s t' n' = addR s s.to (n' - cnt s t' s.to)) := by unfold Hid addMid; rw [if_pos h1, if_neg h2]
        have HPF : Hid (n' - cnt s t' s.to ≤ potS s 4398046511104 - potS s s.to) := by unfold Hid; have := HPT1.out; omega
        obtain ⟨kL, hkL⟩ : ∃ kL, cnt s t' s.to = kL := ⟨_, rfl⟩
        rw [hkL] at h2 hpot HV HPF ⊢
        have g2 : decide (n' ≤ kL) = false := by simpa using h2
        have s1 : IntKind.i64.wrap (n' - kL) = n' - kL := by rw [IntKind.wrap_i64]; omega
        have hkp : 0 ≤ kL := by omega
        clear hkL hpot hmono
        go_wp2_with fail
        go_meet
        case rel => exact ⟨s.to, n' - kL, rfl, rfl, by unfold Hid; rw [HV1.out]; exact HV.out, Int.le_refl _, by omega, by omega, by omega, HPF, HB4.out⟩
    · have g1 : decide (t' < s.to) = false := by simpa using h1
      have HV : Hid (addMid s t' n' = addR s t' n') := by unfold Hid addMid; rw [if_neg h1]
      go_wp2_with fail
      go_meet
      case rel => exact ⟨t', n', rfl, rfl, by unfold Hid; rw [HV1.out]; exact HV.out, by omega, hq2, hq3, hq4, HPT1, Below.refl _ _⟩
  case rest =>
  obtain ⟨t2, m2, rfl, rfl, HV2, hr1, hr2, hr3, hr4, HPT2, hb5⟩ := hcut
  have HX5 := Lib.hid (HX3.out.below hb5)
  have HR5 := Lib.hid (keepSt hb5 HR3.out)
  have hB5 := keepBelow hB3 hb5
  clear hb5 B0 B1 B2 B3 B4 B5 B6 HX3 HR3 
  obtain ⟨⟨B0, B1, B2, B3, B4, B5, B6⟩, _⟩ := HX5.out

  generalize wc = w5 at *
  have hin := in_rt HGS.out hr1 hr3 HPT2.out
  have HV : Hid (addR s t2 m2 = nthP s.rt (rankP s.rt t2 + m2 - 1) + 1) := rfl
  clear HV1 HPT1 HPT2 hq1 hq2 hq3 hq4
  have kb := HGR.out t2
  have KX := fun W hh => HRR.out t2 W hh (by omega) (by omega)
  have KY := fun W hh => HNR.out (rankP s.rt t2 + m2 - 1) W hh hin.1 (by omega) (by omega)
  obtain ⟨rk, hrk⟩ : ∃ rk, rankP s.rt t2 = rk := ⟨_, rfl⟩
  rw [hrk] at KX KY kb hin
  obtain ⟨nv, hnv⟩ : ∃ nv, nthP s.rt (rk + m2 - 1) = nv := ⟨_, rfl⟩
  rw [hnv] at KY hin
  have HRK := Lib.hid hrk
  have HNV := Lib.hid hnv
  have KX := Lib.hid KX
  have KY := Lib.hid KY
  clear hrk hnv
  have s1 : IntKind.i64.wrap (rk + m2) = rk + m2 := by rw [IntKind.wrap_i64]; omega
  have s2 : IntKind.i64.wrap (rk + m2 - 1) = rk + m2 - 1 := by rw [IntKind.wrap_i64]; omega
  have s3 : IntKind.i64.wrap (nv + 1) = nv + 1 := by rw [IntKind.wrap_i64]; omega
  have e0 := ext_cell B0
  have e1 := ext_cell B1
  have e2 := ext_cell B2
  have e3 := ext_cell B3
  have e4 := ext_cell B4
  have e5 := ext_cell B5
  have e6 := ext_cell B6
  have ER := Lib.hid (ext_rd HR5.out.2.1)
  clear HRL HRR HRM HNL HNR HNM HC
  go_wp2_with fail
  refine wp_region_ext (by kernel_rfl) (by kernel_rfl) ?_
  iterate 13 (go_big_quiet_step ((first | (go_at_call 57; refine calls_ext (KX.out _ (ER.out _))) | (go_at_call 56; refine calls_ext (KY.out _ (ER.out _))))))
  refine wpQuiet_nil ?_
  intro wq hbq
  go_wp2
  go_ret2
  exact ⟨by rw [HQ.out, HV2.out, HV.out, HRK.out, HNV.out]; rfl, keepBelow hB5 hbq⟩
end Go.Proofs.YtkfonfheakpcbaaGreat
