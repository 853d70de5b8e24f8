import Derived.Test.YtkfonfheakpcbaaGreatWkExp
/- work.Subtract. -/
namespace Go.Proofs.YtkfonfheakpcbaaGreat
open Go.RowKit Wk

set_option maxRecDepth 100000 in
set_option maxHeartbeats 4000000 in
theorem wSub_any (s : St) (vl vr vv : Value) (t n : Int) (w : World) (h : RdSt w s vl vr vv) :
    Calls Tryz.prog 19 #[.agg #[.int .i64 s.lf.1, vl, .int .i64 s.rt.1, vr, .int .i64 s.fr, .int .i64 s.to, vv], .int .i64 t, .int .i64 n] w fun e w' => e = .returned (.tuple #[.int .i64 (SubM (VB s) s t n).1, .int .i64 (SubM (VB s) s t n).2]) ∧ Below w.heap.size w w' := by
  have HVO : Hid (VB s = true → OkS s) := fun hg => okS_of_VB hg
  have HFC : Hid (∀ x W, RdSt W s vl vr vv → Calls Tryz.prog 38 #[.agg #[.int .i64 s.lf.1, vl, .int .i64 s.rt.1, vr, .int .i64 s.fr, .int .i64 s.to, vv], .int .i64 x] W fun e w' => e = .returned (.int .i64 (faultM (VB s) x)) ∧ Below W.heap.size W w') := fun x W h => wfault_any s vl vr vv x W h
  have HAC : Hid (∀ x W, Calls Tryz.prog 39 #[.int .i64 x] W fun e w' => e = .returned (.bool (amountB x)) ∧ W = w') := fun x W => amount_any x W
  generalize VB s = vb at *
  by_cases hvb : vb = true
  · have hs := HVO.out hvb
    have HRL : Hid (∀ x W, RdS W vl s.lf.2 → -8796093022208 ≤ x → x ≤ 8796093022208 → Calls Tryz.prog 57 #[.agg #[.int .i64 s.lf.1, vl], .int .i64 x] W fun e w' => e = .returned (.int .i64 (rankP s.lf x)) ∧ Below W.heap.size W w') := fun x W h h1 h2 => wrank_any s.lf.1 x vl s.lf.2 W h hs.lf h1 h2
    have HRR : Hid (∀ x W, RdS W vr s.rt.2 → -8796093022208 ≤ x → x ≤ 8796093022208 → Calls Tryz.prog 57 #[.agg #[.int .i64 s.rt.1, vr], .int .i64 x] W fun e w' => e = .returned (.int .i64 (rankP s.rt x)) ∧ Below W.heap.size W w') := fun x W h h1 h2 => wrank_any s.rt.1 x vr s.rt.2 W h hs.rt h1 h2
    have HRM : Hid (∀ x W, RdS W vv s.l → Calls Tryz.prog 59 #[vv, .int .i64 x] W fun e w' => e = .returned (.int .i64 (rank s.l x)) ∧ Below W.heap.size W w') := fun x W h => rrank_any vv s.l x W h hs.l
    have HNL : Hid (∀ x W, RdS W vl s.lf.2 → 0 < meas s.lf.2 → -8796093022208 ≤ nthP s.lf x → nthP s.lf x ≤ 8796093022208 → Calls Tryz.prog 56 #[.agg #[.int .i64 s.lf.1, vl], .int .i64 x] W fun e w' => e = .returned (.int .i64 (nthP s.lf x)) ∧ Below W.heap.size W w') := fun x W h h0 h1 h2 => wnth_any s.lf.1 x vl s.lf.2 W h hs.lf h0 h1 h2
    have HNR : Hid (∀ x W, RdS W vr s.rt.2 → 0 < meas s.rt.2 → -8796093022208 ≤ nthP s.rt x → nthP s.rt x ≤ 8796093022208 → Calls Tryz.prog 56 #[.agg #[.int .i64 s.rt.1, vr], .int .i64 x] W fun e w' => e = .returned (.int .i64 (nthP s.rt x)) ∧ Below W.heap.size W w') := fun x W h h0 h1 h2 => wnth_any s.rt.1 x vr s.rt.2 W h hs.rt h0 h1 h2
    have HNM : Hid (∀ x W, RdS W vv s.l → 0 ≤ x → x < meas s.l → Calls Tryz.prog 58 #[vv, .int .i64 x] W fun e w' => e = .returned (.tuple #[.int .i64 (nth s.l x), .int .i64 0]) ∧ Below W.heap.size W w') := fun x W h h0 h1 => rnth_any vv s.l x W h hs.l h0 h1
    have HC : Hid (∀ a b W, RdSt W s vl vr vv → -4398046511104 ≤ a → a ≤ 4398046511104 → -4398046511104 ≤ b → b ≤ 4398046511104 → Calls Tryz.prog 51 #[.agg #[.int .i64 s.lf.1, vl, .int .i64 s.rt.1, vr, .int .i64 s.fr, .int .i64 s.to, vv], .int .i64 a, .int .i64 b] W fun e w' => e = .returned (.int .i64 (cnt s a b)) ∧ Below W.heap.size W w') := fun a b W h h1 h2 h3 h4 => wcount_any s vl vr vv a b W h hs h1 h2 h3 h4
    have HGS := Lib.hid hs.good
    have HGL : Hid (∀ x, (0 ≤ x → 0 ≤ rankP s.lf x ∧ rankP s.lf x ≤ x) ∧ (x ≤ 0 → x ≤ rankP s.lf x ∧ rankP s.lf x ≤ 0)) := fun x => rankP_bd hs.good.lf x
    have HGR : Hid (∀ x, (0 ≤ x → 0 ≤ rankP s.rt x ∧ rankP s.rt x ≤ x) ∧ (x ≤ 0 → x ≤ rankP s.rt x ∧ rankP s.rt x ≤ 0)) := fun x => rankP_bd hs.good.rt x
    have HGM : Hid (∀ x, 0 ≤ rank s.l x ∧ rank s.l x ≤ s.l.length * 8796093022208) := fun x => rank_bd (l := s.l) x (canon_of_rvB hs.l).2.1
    have hlen := (canon_of_rvB hs.l).2.2
    have hf1 := hs.f1
    have hft := hs.ft
    have hto1 := hs.t1
    clear hs
    have HR0 := Lib.hid h
    obtain ⟨a1, n1, rfl⟩ := h.1.form
    obtain ⟨a2, n2, rfl⟩ := h.2.1.form
    obtain ⟨a3, n3, rfl⟩ := h.2.2.form
    clear h
    obtain ⟨W, hWe⟩ : ∃ W, w.alloc (.cells #[.int .i64 s.lf.1, .slice a1 s.lf.2.length n1, .int .i64 s.rt.1, .slice a2 s.rt.2.length n2, .int .i64 s.fr, .int .i64 s.to, .slice a3 s.l.length n3] 26) = W := ⟨_, rfl⟩
    have hW : Below w.heap.size w W := by rw [← hWe]; exact (Below.refl _ w).alloc (Nat.le_refl _) _
    have HX : Hid (Set7 W w.heap.size (.int .i64 s.lf.1) (.slice a1 s.lf.2.length n1) (.int .i64 s.rt.1) (.slice a2 s.rt.2.length n2) (.int .i64 s.fr) (.int .i64 s.to) (.slice a3 s.l.length n3)) := by
      rw [← hWe]
      refine ⟨⟨?_, ?_, ?_, ?_, ?_, ?_, ?_⟩, ?_, ?_, ?_, ?_, ?_, ?_, ?_⟩ <;> simp [go_sem]
    have HR := Lib.hid (keepSt hW HR0.out)
    have HE := Lib.hid hWe
    clear hWe HR0
    obtain ⟨⟨B0, B1, B2, B3, B4, B5, B6⟩, _⟩ := HX.out
    go_enter Tryz.func19, Tryz.ntmps19
    go_wp2_with fail
    rw [HE.out]

    go_wp2_with fail
    refine (HFC.out t _ HR.out).mono ?_
    rintro e w1 ⟨rfl, hb1⟩
    have HX1 := Lib.hid (HX.out.below hb1)
    have HR1 := Lib.hid (keepSt hb1 HR.out)
    have hB1 := keepBelow hW hb1
    clear hb1 B0 B1 B2 B3 B4 B5 B6 HX HR HE
    obtain ⟨⟨B0, B1, B2, B3, B4, B5, B6⟩, _⟩ := HX1.out

    obtain ⟨f, hf⟩ : ∃ f, faultM vb t = f := ⟨_, rfl⟩
    rw [hf]
    by_cases hf0 : f ≠ 0
    · have HQ : Hid (SubM vb s t n = (0, f)) := by unfold Hid SubM; rw [hf, if_pos hf0]
      have g1 : (f == 0) = false := by simpa using hf0
      clear hf
      go_wp2
      go_ret2
      exact ⟨by rw [HQ.out]; rfl, hB1⟩
    have hf0 : f = 0 := by omega
    subst hf0
    obtain ⟨_, hlx⟩ := fault_iff.1 hf
    have HF := Lib.hid hf
    have hlx := (lineB_iff t).1 hlx
    clear hf

    go_wp2_with fail

    refine (HAC.out n _).mono ?_
    rintro e w2 ⟨rfl, rfl⟩
    cases hln : amountB n with
    | false =>
      have HQ : Hid (SubM vb s t n = (0, 2)) := by unfold Hid SubM; rw [HF.out, if_neg (by simp), if_pos hln]
      clear hln
      go_wp2
      go_ret2
      exact ⟨by rw [HQ.out]; rfl, hB1⟩
    | true =>
    have HN := Lib.hid hln
    have hn : 0 ≤ n ∧ n ≤ 8796093022208 := by unfold amountB at hln; simpa using hln

    have HS : Hid (SubM vb s t n = subM s t n) := by unfold Hid SubM; rw [HF.out, if_neg (by simp), if_neg (by rw [HN.out]; simp)]
    clear hln
    by_cases hn0 : n = 0
    · subst hn0
      go_wp2
      go_ret2
      exact ⟨by rw [HS.out, subM_zero]; rfl, hB1⟩
    have g0 : (n == 0) = false := by simpa using hn0
    go_wp2_with fail
    refine (HC.out (-4398046511104) t _ HR1.out (by omega) (by omega) (by omega) (by omega)).mono ?_
    rintro e w2 ⟨rfl, hb2⟩
    have HX2 := Lib.hid (HX1.out.below hb2)
    have HR2 := Lib.hid (keepSt hb2 HR1.out)
    have hB2 := keepBelow hB1 hb2
    clear hb2 B0 B1 B2 B3 B4 B5 B6 HX1 HR1 
    obtain ⟨⟨B0, B1, B2, B3, B4, B5, B6⟩, _⟩ := HX2.out

    have hpot := cnt_pot s HGS.out.ft (-4398046511104) t (by omega)
    obtain ⟨kT, hkT⟩ : ∃ kT, cnt s (-4398046511104) t = kT := ⟨_, rfl⟩
    rw [hkT] at hpot ⊢
    by_cases hk : kT < n
    · have HQ : Hid (subM s t n = (0, 7)) := by unfold Hid subM; rw [if_neg hn0, hkT, if_pos hk]
      have gk : decide (kT < n) = true := by simpa using hk
      clear hkT
      go_wp2
      go_ret2
      exact ⟨by rw [HS.out, HQ.out]; rfl, hB2⟩
    have HQ : Hid (SubM vb s t n = (subRt s t n, 0)) := by unfold Hid; rw [HS.out]; unfold subM; rw [if_neg hn0, hkT, if_neg hk]
    have gk : decide (kT < n) = false := by simpa using hk
    have hnp : 0 < n := by omega
    clear hkT hn0 HS
    have HPT : Hid (n ≤ potS s t - potS s (-4398046511104)) := by unfold Hid; omega
    clear hpot
    go_upto_if 36 with fail
    go_cut [1, 2, 9] from 33 to 58 (fun u v _ wx => ∃ t' n', u = .int .i64 t' ∧ v = .int .i64 n' ∧ Hid (subRt s t n = subMid s t' n') ∧ t' ≤ s.to ∧ -4398046511104 ≤ t' ∧ 0 < n' ∧ n' ≤ 8796093022208 ∧ Hid (n' ≤ potS s t' - potS s (-4398046511104)) ∧ Below w2.heap.size w2 wx)
    case first =>
      by_cases h1 : s.to < t
      · have g1 : decide (s.to < t) = true := by simpa using h1
        go_wp2_with fail
        refine (HC.out s.to t _ HR2.out (by omega) (by omega) (by omega) (by omega)).mono ?_
        rintro e w3 ⟨rfl, hb3⟩
        have HB3 := Lib.hid hb3
        have HX3 := Lib.hid (HX2.out.below hb3)
        have HR3 := Lib.hid (keepSt hb3 HR2.out)
        have hB3 := keepBelow hB2 hb3
        clear hb3 B0 B1 B2 B3 B4 B5 B6 HX2 HR2 
        obtain ⟨⟨B0, B1, B2, B3, B4, B5, B6⟩, _⟩ := HX3.out

        have hpot := cnt_pot s HGS.out.ft s.to t (by omega)
        have hmono := ((potS_steps HGS.out).mono s.to t (by omega))
        by_cases h2 : n ≤ cnt s s.to t
        · have hin := su_rt HGS.out h1 hnp h2
          have HV : Hid (subRt s t n = nthP s.rt (rankP s.rt t - n)) := by unfold Hid subRt; rw [if_pos h1, if_pos h2]
          obtain ⟨kL, hkL⟩ : ∃ kL, cnt s s.to t = kL := ⟨_, rfl⟩
          rw [hkL] at h2 ⊢
          have g2 : decide (n ≤ kL) = true := by simpa using h2
          clear hkL hpot hmono
          have kb := HGR.out t
          have KX := fun W hh => HRR.out t W hh (by omega) (by omega)
          have KY := fun W hh => HNR.out (rankP s.rt t - n) W hh hin.1 (by omega) (by omega)
          obtain ⟨rk, hrk⟩ : ∃ rk, rankP s.rt t = rk := ⟨_, rfl⟩
          rw [hrk] at KX KY kb hin
          obtain ⟨nv, hnv⟩ : ∃ nv, nthP s.rt (rk - n) = nv := ⟨_, rfl⟩
          rw [hnv] at KY hin
          have HRK := Lib.hid hrk
          have HNV := Lib.hid hnv
          have KX := Lib.hid KX
          have KY := Lib.hid KY
          clear hrk hnv
          have s1 : IntKind.i64.wrap (rk - n) = rk - n := by rw [IntKind.wrap_i64]; omega
          have e0 := ext_cell B0
          have e1 := ext_cell B1
          have e2 := ext_cell B2
          have e3 := ext_cell B3
          have e4 := ext_cell B4
          have e5 := ext_cell B5
          have e6 := ext_cell B6
          have ER := Lib.hid (ext_rd HR3.out.2.1)
          clear HRL HRR HRM HNL HNR HNM HC
          go_wp2_with fail
          refine wp_region_ext (by kernel_rfl) (by kernel_rfl) ?_
          iterate 11 (go_big_quiet_step ((first | (go_at_call 57; refine calls_ext (KX.out _ (ER.out _))) | (go_at_call 56; refine calls_ext (KY.out _ (ER.out _))))))
          refine wpQuiet_nil ?_
          intro wq hbq
          go_wp2
          go_ret2
          exact ⟨by rw [HQ.out, HV.out, HRK.out, HNV.out]; rfl, keepBelow hB3 hbq⟩

        · have HV : Hid (subRt s t n = subMid s s.to (n - cnt s s.to t)) := by unfold Hid subRt; rw [if_pos h1, if_neg h2]
          have HPF : Hid (n - cnt s s.to t ≤ potS s s.to - potS s (-4398046511104)) := by unfold Hid; have := HPT.out; omega
          obtain ⟨kL, hkL⟩ : ∃ kL, cnt s s.to t = kL := ⟨_, rfl⟩
          rw [hkL] at h2 hpot HV HPF ⊢
          have g2 : decide (n ≤ kL) = false := by simpa using h2
          have s1 : IntKind.i64.wrap (n - kL) = n - kL := by rw [IntKind.wrap_i64]; omega
          have hkp : 0 ≤ kL := by omega
          clear hkL hpot hmono
          go_wp2_with fail
          go_meet
          case rel => exact ⟨s.to, n - kL, rfl, rfl, HV, Int.le_refl _, by omega, by omega, by omega, HPF, HB3.out⟩
      · have g1 : decide (s.to < t) = false := by simpa using h1
        have HV : Hid (subRt s t n = subMid s t n) := by unfold Hid subRt; rw [if_neg h1]
        go_wp2_with fail
        go_meet
        case rel => exact ⟨t, n, rfl, rfl, HV, by omega, by omega, hnp, by omega, HPT, Below.refl _ _⟩
    case rest =>
    obtain ⟨t', n', rfl, rfl, HV1, hq1, hq2, hq3, hq4, HPT1, hb4⟩ := hcut
    have HX4 := Lib.hid (HX2.out.below hb4)
    have HR4 := Lib.hid (keepSt hb4 HR2.out)
    have hB4 := keepBelow hB2 hb4
    clear hb4 B0 B1 B2 B3 B4 B5 B6 HX2 HR2 
    obtain ⟨⟨B0, B1, B2, B3, B4, B5, B6⟩, _⟩ := HX4.out

    generalize wc = w4 at *
    clear HPT hk gk
    go_upto_if 62 with fail
    go_cut [1, 2, 10, 11, 12] from 59 to 88 (fun u v _ _ _ wx => ∃ t'' n'', u = .int .i64 t'' ∧ v = .int .i64 n'' ∧ Hid (subRt s t n = subL s t'' n'') ∧ t'' ≤ s.fr ∧ -4398046511104 ≤ t'' ∧ 0 < n'' ∧ n'' ≤ 8796093022208 ∧ Hid (n'' ≤ potS s t'' - potS s (-4398046511104)) ∧ Below w4.heap.size w4 wx)
    case first =>
      by_cases h1 : s.fr < t'
      · have g1 : decide (s.fr < t') = true := by simpa using h1
        go_wp2_with fail
        refine (HC.out s.fr t' _ HR4.out (by omega) (by omega) (by omega) (by omega)).mono ?_
        rintro e w5 ⟨rfl, hb5⟩
        have HB5 := Lib.hid hb5
        have HX5 := Lib.hid (HX4.out.below hb5)
        have HR5 := Lib.hid (keepSt hb5 HR4.out)
        have hB5 := keepBelow hB4 hb5
        clear hb5 B0 B1 B2 B3 B4 B5 B6 HX4 HR4 
        obtain ⟨⟨B0, B1, B2, B3, B4, B5, B6⟩, _⟩ := HX5.out

        have hpot := cnt_pot s HGS.out.ft s.fr t' (by omega)
        have hmono := ((potS_steps HGS.out).mono s.fr t' (by omega))
        by_cases h2 : n' ≤ cnt s s.fr t'
        · have hin := su_mid HGS.out hq1 h1 hq3 h2
          have HV : Hid (subMid s t' n' = nth s.l (rank s.l t' - n')) := by unfold Hid subMid; rw [if_pos h1, if_pos h2]
          obtain ⟨kL, hkL⟩ : ∃ kL, cnt s s.fr t' = kL := ⟨_, rfl⟩
          rw [hkL] at h2 ⊢
          have g2 : decide (n' ≤ kL) = true := by simpa using h2
          clear hkL hpot hmono
          have kb := HGM.out t'
          have KX := HRM.out t'
          have KY := fun W hh => HNM.out (rank s.l t' - n') W hh hin.1 hin.2.1
          obtain ⟨rk, hrk⟩ : ∃ rk, rank s.l t' = rk := ⟨_, rfl⟩
          rw [hrk] at KX KY kb hin
          obtain ⟨nv, hnv⟩ : ∃ nv, nth s.l (rk - n') = nv := ⟨_, rfl⟩
          rw [hnv] at KY hin
          have HRK := Lib.hid hrk
          have HNV := Lib.hid hnv
          have KX := Lib.hid KX
          have KY := Lib.hid KY
          clear hrk hnv
          have s1 : IntKind.i64.wrap (rk - n') = rk - n' := by rw [IntKind.wrap_i64]; omega
          have e0 := ext_cell B0
          have e1 := ext_cell B1
          have e2 := ext_cell B2
          have e3 := ext_cell B3
          have e4 := ext_cell B4
          have e5 := ext_cell B5
          have e6 := ext_cell B6
          have ER := Lib.hid (ext_rd HR5.out.2.2)
          clear HRL HRR HRM HNL HNR HNM HC
          go_wp2_with fail
          refine wp_region_ext (by kernel_rfl) (by kernel_rfl) ?_
          iterate 14 (go_big_quiet_step ((first | (go_at_call 59; refine calls_ext (KX.out _ (ER.out _))) | (go_at_call 58; refine calls_ext (KY.out _ (ER.out _))))))
          refine wpQuiet_nil ?_
          intro wq hbq
          go_wp2
          go_ret2
          exact ⟨by rw [HQ.out, HV1.out, HV.out, HRK.out, HNV.out]; rfl, keepBelow hB5 hbq⟩

        · have HV : Hid (subMid s t' n' = subL s s.fr (n' - cnt s s.fr t')) := by unfold Hid subMid; rw [if_pos h1, if_neg h2]
          have HPF : Hid (n' - cnt s s.fr t' ≤ potS s s.fr - potS s (-4398046511104)) := by unfold Hid; have := HPT1.out; omega
          obtain ⟨kL, hkL⟩ : ∃ kL, cnt s s.fr t' = kL := ⟨_, rfl⟩
          rw [hkL] at h2 hpot HV HPF ⊢
          have g2 : decide (n' ≤ kL) = false := by simpa using h2
          have s1 : IntKind.i64.wrap (n' - kL) = n' - kL := by rw [IntKind.wrap_i64]; omega
          have hkp : 0 ≤ kL := by omega
          clear hkL hpot hmono
          go_wp2_with fail
          go_meet
          case rel => exact ⟨s.fr, n' - kL, rfl, rfl, by unfold Hid; rw [HV1.out]; exact HV.out, Int.le_refl _, by omega, by omega, by omega, HPF, HB5.out⟩
      · have g1 : decide (s.fr < t') = false := by simpa using h1
        have HV : Hid (subMid s t' n' = subL s t' n') := by unfold Hid subMid; rw [if_neg h1]
        go_wp2_with fail
        go_meet
        case rel => exact ⟨t', n', rfl, rfl, by unfold Hid; rw [HV1.out]; exact HV.out, by omega, hq2, hq3, hq4, HPT1, Below.refl _ _⟩
    case rest =>
    obtain ⟨t2, m2, rfl, rfl, HV2, hr1, hr2, hr3, hr4, HPT2, hb6⟩ := hcut
    have HX6 := Lib.hid (HX4.out.below hb6)
    have HR6 := Lib.hid (keepSt hb6 HR4.out)
    have hB6 := keepBelow hB4 hb6
    clear hb6 B0 B1 B2 B3 B4 B5 B6 HX4 HR4 
    obtain ⟨⟨B0, B1, B2, B3, B4, B5, B6⟩, _⟩ := HX6.out

    generalize wc = w6 at *
    have hin := su_lf HGS.out hr1 hr3 HPT2.out
    have HV : Hid (subL s t2 m2 = nthP s.lf (rankP s.lf t2 - m2)) := rfl
    clear HV1 HPT1 HPT2 hq1 hq2 hq3 hq4
    have kb := HGL.out t2
    have KX := fun W hh => HRL.out t2 W hh (by omega) (by omega)
    have KY := fun W hh => HNL.out (rankP s.lf t2 - m2) W hh hin.1 (by omega) (by omega)
    obtain ⟨rk, hrk⟩ : ∃ rk, rankP s.lf t2 = rk := ⟨_, rfl⟩
    rw [hrk] at KX KY kb hin
    obtain ⟨nv, hnv⟩ : ∃ nv, nthP s.lf (rk - m2) = nv := ⟨_, rfl⟩
    rw [hnv] at KY hin
    have HRK := Lib.hid hrk
    have HNV := Lib.hid hnv
    have KX := Lib.hid KX
    have KY := Lib.hid KY
    clear hrk hnv
    have s1 : IntKind.i64.wrap (rk - m2) = rk - m2 := by rw [IntKind.wrap_i64]; omega
    have e0 := ext_cell B0
    have e1 := ext_cell B1
    have e2 := ext_cell B2
    have e3 := ext_cell B3
    have e4 := ext_cell B4
    have e5 := ext_cell B5
    have e6 := ext_cell B6
    have ER := Lib.hid (ext_rd HR6.out.1)
    clear HRL HRR HRM HNL HNR HNM HC
    go_wp2_with fail
    refine wp_region_ext (by kernel_rfl) (by kernel_rfl) ?_
    iterate 11 (go_big_quiet_step ((first | (go_at_call 57; refine calls_ext (KX.out _ (ER.out _))) | (go_at_call 56; refine calls_ext (KY.out _ (ER.out _))))))
    refine wpQuiet_nil ?_
    intro wq hbq
    go_wp2
    go_ret2
    exact ⟨by rw [HQ.out, HV2.out, HV.out, HRK.out, HNV.out]; rfl, keepBelow hB6 hbq⟩
  · have hvb : vb = false := by simpa using hvb
    have HV0 := Lib.hid hvb
    have HR0 := Lib.hid h
    obtain ⟨a1, n1, rfl⟩ := h.1.form
    obtain ⟨a2, n2, rfl⟩ := h.2.1.form
    obtain ⟨a3, n3, rfl⟩ := h.2.2.form
    clear h
    obtain ⟨W, hWe⟩ : ∃ W, w.alloc (.cells #[.int .i64 s.lf.1, .slice a1 s.lf.2.length n1, .int .i64 s.rt.1, .slice a2 s.rt.2.length n2, .int .i64 s.fr, .int .i64 s.to, .slice a3 s.l.length n3] 26) = W := ⟨_, rfl⟩
    have hW : Below w.heap.size w W := by rw [← hWe]; exact (Below.refl _ w).alloc (Nat.le_refl _) _
    have HX : Hid (Set7 W w.heap.size (.int .i64 s.lf.1) (.slice a1 s.lf.2.length n1) (.int .i64 s.rt.1) (.slice a2 s.rt.2.length n2) (.int .i64 s.fr) (.int .i64 s.to) (.slice a3 s.l.length n3)) := by
      rw [← hWe]
      refine ⟨⟨?_, ?_, ?_, ?_, ?_, ?_, ?_⟩, ?_, ?_, ?_, ?_, ?_, ?_, ?_⟩ <;> simp [go_sem]
    have HR := Lib.hid (keepSt hW HR0.out)
    have HE := Lib.hid hWe
    clear hWe HR0
    obtain ⟨⟨B0, B1, B2, B3, B4, B5, B6⟩, _⟩ := HX.out
    go_enter Tryz.func19, Tryz.ntmps19
    go_wp2_with fail
    rw [HE.out]

    go_wp2_with fail
    refine (HFC.out t _ HR.out).mono ?_
    rintro e w1 ⟨rfl, hb1⟩
    have HX1 := Lib.hid (HX.out.below hb1)
    have HR1 := Lib.hid (keepSt hb1 HR.out)
    have hB1 := keepBelow hW hb1
    clear hb1 B0 B1 B2 B3 B4 B5 B6 HX HR HE
    obtain ⟨⟨B0, B1, B2, B3, B4, B5, B6⟩, _⟩ := HX1.out

    have hf : faultM vb t = 1 := by unfold faultM; rw [HV0.out]; rfl
    have HQ : Hid (SubM vb s t n = (0, 1)) := by unfold Hid SubM; rw [hf, if_pos (by omega)]
    rw [hf]
    go_wp2
    go_ret2
    exact ⟨by rw [HQ.out]; rfl, hB1⟩
end Go.Proofs.YtkfonfheakpcbaaGreat
