import Derived.Test.YtkfonfheakpcbaaGreatWkDay
/- work.part, work.Share. -/
namespace Go.Proofs.YtkfonfheakpcbaaGreat
open Go.RowKit Wk

set_option maxHeartbeats 1000000 in
theorem part_any (k m n : Int) (w : World) (hk0 : 0 ≤ k) (hk1 : k ≤ 1000) (hn0 : 1 ≤ n) (hn1 : n ≤ 1000) (hm0 : 0 ≤ m) (hm1 : m ≤ 8796093022208) :
    Calls Tryz.prog 69 #[.int .i64 k, .int .i64 m, .int .i64 n] w fun e w' => e = .returned (.int .i64 (partM k m n)) ∧ Below w.heap.size w w' := by
  have HP : Hid (partM k m n = m / n * k + m % n * k / n) := rfl
  have e1 : Int.tdiv m n = m / n := Int.tdiv_eq_ediv_of_nonneg hm0
  have e2 : Int.tmod m n = m % n := Int.tmod_eq_emod_of_nonneg hm0
  have g0 : (n == 0) = false := by simp; omega
  have a1 : 0 ≤ m / n := Int.ediv_nonneg hm0 (by omega)
  have a2 : m / n ≤ m := Int.ediv_le_self _ hm0
  have a3 := Int.emod_nonneg m (b := n) (by omega)
  have a4 := Int.emod_lt_of_pos m (b := n) (by omega)
  obtain ⟨q, hq⟩ : ∃ q, m / n = q := ⟨_, rfl⟩
  obtain ⟨r, hr⟩ : ∃ r, m % n = r := ⟨_, rfl⟩
  rw [hq] at HP e1 a1 a2
  rw [hr] at HP e2 a3 a4
  have b1 : 0 ≤ q * k := Int.mul_nonneg a1 hk0
  have b2 : q * k ≤ 8796093022208 * 1000 := Int.mul_le_mul (by omega) hk1 hk0 (by omega)
  have b3 : 0 ≤ r * k := Int.mul_nonneg a3 hk0
  have b4 : r * k ≤ 1000 * 1000 := Int.mul_le_mul (by omega) hk1 hk0 (by omega)
  have s1 : IntKind.i64.wrap (q * k) = q * k := by rw [IntKind.wrap_i64]; omega
  have s2 : IntKind.i64.wrap (r * k) = r * k := by rw [IntKind.wrap_i64]; omega
  have e3 : Int.tdiv (r * k) n = r * k / n := Int.tdiv_eq_ediv_of_nonneg b3
  have c1 : 0 ≤ r * k / n := Int.ediv_nonneg b3 (by omega)
  have c2 : r * k / n ≤ r * k := Int.ediv_le_self _ b3
  obtain ⟨z, hz⟩ : ∃ z, r * k / n = z := ⟨_, rfl⟩
  rw [hz] at e3 HP c1 c2
  have s3 : IntKind.i64.wrap (q * k + z) = q * k + z := by rw [IntKind.wrap_i64]; omega
  clear hq hr hz
  go_enter Tryz.func69, Tryz.ntmps69
  go_wp2_with fail
  refine wp_region_ext (by kernel_rfl) (by kernel_rfl) ?_
  repeat (go_big_quiet_step (fail))
  refine wpQuiet_nil ?_
  intro w1 hb1
  go_wp2
  go_ret
  exact ⟨ret_int HP.out.symm, hb1⟩

/-- what Share answers -/
def shareM (b : Bool) (s : St) (f t n : Int) : List Sp × Int :=
  if b = false ∨ ivB (f, t) = false then ([], 1) else if n < 1 ∨ 1000 < n then ([], 2) else if cnt s f t < n then ([], 7)
  else (shareL s f t n.toNat n.toNat, 0)
def ShPost (b : Bool) (s : St) (f t n : Int) (w : World) (e : Ending) (w' : World) : Prop :=
  ∃ v, e = .returned (.tuple #[v, .int .i64 (shareM b s f t n).2]) ∧ OwnS w' w.heap.size v (shareM b s f t n).1 ∧ Below w.heap.size w w'
theorem share_len (s : St) (f t : Int) (n k : Nat) : (shareL s f t n k).length = k := by simp [shareL]
theorem share_succ (s : St) (f t : Int) (n k : Nat) : shareL s f t n (k + 1) = shareL s f t n k ++ [(bndM s f t n k, bndM s f t n (k + 1))] := by
  simp [shareL, List.range_succ]
theorem share_get (s : St) (f t : Int) {n k i : Nat} (hi : i < k) : (shareL s f t n k).getD i (0, 0) = (bndM s f t n i, bndM s f t n (i + 1)) := by
  simp [shareL, List.getD_eq_getElem?_getD, hi]

set_option maxRecDepth 100000 in
set_option maxHeartbeats 4000000 in
theorem wshare_any (s : St) (vl vr vv : Value) (f t n : Int) (w : World) (h : RdSt w s vl vr vv) :
    Calls Tryz.prog 30 #[.agg #[.int .i64 s.lf.1, vl, .int .i64 s.rt.1, vr, .int .i64 s.fr, .int .i64 s.to, vv], .agg #[.int .i64 f, .int .i64 t], .int .i64 n] w (ShPost (VB s) s f t n w) := by
  have HV := Lib.hid (fun W h => tvalid_any s vl vr vv W h)
  have HI := Lib.hid (fun W => ivalid_any f t W)
  have HPT := Lib.hid (fun k m n W h0 h1 h2 h3 h4 h5 => part_any k m n W h0 h1 h2 h3 h4 h5)
  have HC : Hid (VB s = true → ∀ a b W, RdSt W s vl vr vv → -4398046511104 ≤ a → a ≤ 4398046511104 → -4398046511104 ≤ b → b ≤ 4398046511104 → Calls Tryz.prog 51 #[.agg #[.int .i64 s.lf.1, vl, .int .i64 s.rt.1, vr, .int .i64 s.fr, .int .i64 s.to, vv], .int .i64 a, .int .i64 b] W fun e w' => e = .returned (.int .i64 (cnt s a b)) ∧ Below W.heap.size W w') := fun hg a b W h h1 h2 h3 h4 => wcount_any s vl vr vv a b W h (okS_of_VB hg) h1 h2 h3 h4
  have HAD : Hid (VB s = true → ∀ a b W, RdSt W s vl vr vv → -4398046511104 ≤ a → a ≤ 4398046511104 → 0 ≤ b → b ≤ 8796093022208 → Calls Tryz.prog 42 #[.agg #[.int .i64 s.lf.1, vl, .int .i64 s.rt.1, vr, .int .i64 s.fr, .int .i64 s.to, vv], .int .i64 a, .int .i64 b] W fun e w' => e = .returned (.tuple #[.int .i64 (addM s a b).1, .int .i64 (addM s a b).2]) ∧ Below W.heap.size W w') := fun hg a b W h h1 h2 h3 h4 => wadd_any s vl vr vv a b W h (okS_of_VB hg) h1 h2 h3 h4
  have HGD : Hid (VB s = true → GoodS s) := fun hg => (okS_of_VB hg).good
  generalize VB s = vb at *
  obtain ⟨iv, hiv⟩ : ∃ iv, ivB (f, t) = iv := ⟨_, rfl⟩
  rw [hiv] at HI
  have HIV := Lib.hid hiv
  clear hiv

  have HR0 := Lib.hid h
  obtain ⟨a1, n1, rfl⟩ := h.1.form
  obtain ⟨a2, n2, rfl⟩ := h.2.1.form
  obtain ⟨a3, n3, rfl⟩ := h.2.2.form
  clear h
  obtain ⟨W, hWe⟩ : ∃ W, (w.alloc (.cells #[.int .i64 s.lf.1, .slice a1 s.lf.2.length n1, .int .i64 s.rt.1, .slice a2 s.rt.2.length n2, .int .i64 s.fr, .int .i64 s.to, .slice a3 s.l.length n3] 26)).alloc (.cells #[.int .i64 f, .int .i64 t] 44) = W := ⟨_, rfl⟩
  have hW : Below w.heap.size w W := by rw [← hWe]; exact ((Below.refl _ w).alloc (Nat.le_refl _) _).alloc (by simp) _
  have HX : Hid (Set7 W w.heap.size (.int .i64 s.lf.1) (.slice a1 s.lf.2.length n1) (.int .i64 s.rt.1) (.slice a2 s.rt.2.length n2) (.int .i64 s.fr) (.int .i64 s.to) (.slice a3 s.l.length n3) ∧ W.cell? ⟨w.heap.size + 1, 0, none⟩ = some (.int .i64 f) ∧ W.cell? ⟨w.heap.size + 1, 1, none⟩ = some (.int .i64 t)) := by
    rw [← hWe]
    refine ⟨⟨⟨?_, ?_, ?_, ?_, ?_, ?_, ?_⟩, ?_, ?_, ?_, ?_, ?_, ?_, ?_⟩, ?_, ?_⟩ <;> simp [go_sem]
  have HR := Lib.hid (keepSt hW HR0.out)
  have HE := Lib.hid hWe
  clear hWe HR0
  obtain ⟨⟨⟨B0, B1, B2, B3, B4, B5, B6⟩, _⟩, S0, S1⟩ := HX.out
  go_enter Tryz.func30, Tryz.ntmps30
  go_wp2_with fail
  rw [HE.out]

  go_wp2_with fail
  refine (HV.out _ HR.out).mono ?_
  rintro e w1 ⟨rfl, hb1⟩
  have HX1 : Hid (_ ∧ _ ∧ _) := ⟨HX.out.1.below hb1, keepCell hb1 HX.out.2.1, keepCell hb1 HX.out.2.2⟩
  have HR1 := Lib.hid (keepSt hb1 HR.out)
  have hB1 := keepBelow hW hb1
  clear hb1 B0 B1 B2 B3 B4 B5 B6 S0 S1 HX HR HE HV
  obtain ⟨⟨⟨B0, B1, B2, B3, B4, B5, B6⟩, _⟩, S0, S1⟩ := HX1.out

  cases vb with
  | false =>
    have HQ : Hid (shareM false s f t n = ([], 1)) := by unfold Hid shareM; rw [if_pos (.inl rfl)]
    go_wp2
    go_ret2
    exact ⟨.slice none 0 0, by rw [HQ.out]; rfl, by rw [HQ.out]; exact OwnS.nil _ _, hB1⟩

  | true =>
  go_wp2_with fail
  refine (HI.out _).mono ?_
  rintro e w2 ⟨rfl, hb2⟩
  have HX2 : Hid (_ ∧ _ ∧ _) := ⟨HX1.out.1.below hb2, keepCell hb2 HX1.out.2.1, keepCell hb2 HX1.out.2.2⟩
  have HR2 := Lib.hid (keepSt hb2 HR1.out)
  have hB2 := keepBelow hB1 hb2
  clear hb2 B0 B1 B2 B3 B4 B5 B6 S0 S1 HX1 HR1 HI
  obtain ⟨⟨⟨B0, B1, B2, B3, B4, B5, B6⟩, _⟩, S0, S1⟩ := HX2.out

  cases iv with
  | false =>
    have HQ : Hid (shareM true s f t n = ([], 1)) := by unfold Hid shareM; rw [if_pos (.inr HIV.out)]
    go_wp2
    go_ret2
    exact ⟨.slice none 0 0, by rw [HQ.out]; rfl, by rw [HQ.out]; exact OwnS.nil _ _, hB2⟩

  | true =>
  have hivb := (ivB_iff (f, t)).1 HIV.out
  simp only at hivb
  have HO1 : Hid (¬ (true = false ∨ ivB (f, t) = false)) := by unfold Hid; rw [HIV.out]; simp
  by_cases hl0 : n < 1
  · have g1 : decide (n < 1) = true := by simpa using hl0
    have HQ : Hid (shareM true s f t n = ([], 2)) := by unfold Hid shareM; rw [if_neg HO1.out, if_pos (.inl hl0)]
    go_wp2
    go_ret2
    exact ⟨.slice none 0 0, by rw [HQ.out]; rfl, by rw [HQ.out]; exact OwnS.nil _ _, hB2⟩

  have g1 : decide (n < 1) = false := by simpa using hl0
  by_cases hl1 : 1000 < n
  · have g2 : decide (1000 < n) = true := by simpa using hl1
    have HQ : Hid (shareM true s f t n = ([], 2)) := by unfold Hid shareM; rw [if_neg HO1.out, if_pos (.inr hl1)]
    go_wp2
    go_ret2
    exact ⟨.slice none 0 0, by rw [HQ.out]; rfl, by rw [HQ.out]; exact OwnS.nil _ _, hB2⟩

  have g2 : decide (1000 < n) = false := by simpa using hl1
  have HO2 : Hid (¬ (n < 1 ∨ 1000 < n)) := by unfold Hid; omega
  have hGS := HGD.out (by first | rfl | trivial)
  have HCC := HC.out (by first | rfl | trivial)
  have HAA := Lib.hid (HAD.out (by first | rfl | trivial))
  have hmo := (potS_steps hGS).mono f t (by omega)
  have hcp := cnt_pot s hGS.ft f t (by omega)
  have HCf := HCC f t
  obtain ⟨M, hM⟩ : ∃ M, cnt s f t = M := ⟨_, rfl⟩
  rw [hM] at HCf hcp
  have HM := Lib.hid hM
  have HCf := Lib.hid (fun W hh => HCf W hh (by omega) (by omega) (by omega) (by omega))
  have bM : 0 ≤ M ∧ M ≤ 8796093022208 := by omega
  clear hM hmo hcp HCC HC HAD HGD
  go_wp2_with fail
  refine (HCf.out _ HR2.out).mono ?_
  rintro e w3 ⟨rfl, hb3⟩
  have HX3 : Hid (_ ∧ _ ∧ _) := ⟨HX2.out.1.below hb3, keepCell hb3 HX2.out.2.1, keepCell hb3 HX2.out.2.2⟩
  have HR3 := Lib.hid (keepSt hb3 HR2.out)
  have hB3 := keepBelow hB2 hb3
  clear hb3 B0 B1 B2 B3 B4 B5 B6 S0 S1 HX2 HR2 HCf
  obtain ⟨⟨⟨B0, B1, B2, B3, B4, B5, B6⟩, _⟩, S0, S1⟩ := HX3.out

  by_cases hmn : M < n
  · have g3 : decide (M < n) = true := by simpa using hmn
    have HQ : Hid (shareM true s f t n = ([], 7)) := by unfold Hid shareM; rw [if_neg HO1.out, if_neg HO2.out, HM.out, if_pos hmn]
    go_wp2
    go_ret2
    exact ⟨.slice none 0 0, by rw [HQ.out]; rfl, by rw [HQ.out]; exact OwnS.nil _ _, hB3⟩

  have g3 : decide (M < n) = false := by simpa using hmn
  obtain ⟨N, rfl⟩ : ∃ N : Nat, n = (N : Int) := ⟨n.toNat, by omega⟩
  have HQ : Hid (shareM true s f t N = (shareL s f t N N, 0)) := by unfold Hid shareM; rw [if_neg HO1.out, if_neg HO2.out, HM.out, if_neg hmn]; rfl
  have HPB : Hid (∀ k : Nat, k ≤ N → 0 ≤ partM k M N ∧ partM k M N ≤ M) := by
    intro k hk
    have p1 := partM_mono M N (by omega) (by omega) k 0
    have p2 := partM_mono M N (by omega) (by omega) (N - k) k
    rw [partM_zero] at p1
    rw [show (k : Int) + ((N - k : Nat) : Int) = N by omega, partM_full _ _ (by omega)] at p2
    rw [show (0 : Int) + (k : Int) = k by omega] at p1
    omega
  have HB0 : Hid (bndM s f t N 0 = f) := rfl
  have HBk : Hid (∀ k : Nat, k + 1 < N → bndM s f t N (k + 1) = (addM s f (partM ((k : Int) + 1) M N)).1) := by
    intro k hk
    unfold bndM
    rw [if_neg (by omega), if_pos hk, HM.out]
    rfl
  have HBN : Hid (bndM s f t N N = t) := by unfold Hid bndM; rw [if_neg (by omega), if_neg (by omega)]
  have hws := hB3.size
  clear HO1 HO2 hGS HM
  go_wp2_with fail
  go_loopw [9, 10, 41] (fun u x y wr => ∃ k : Nat, y = .int .i64 k ∧ k ≤ N ∧ x = .int .i64 (bndM s f t N k) ∧ OwnS wr w3.heap.size u (shareL s f t N k) ∧ Below w3.heap.size w3 wr) (fun _ _ y _ => N - (intOf y).toNat)
  case atStart => exact ⟨0, rfl, by omega, by rw [HB0.out], OwnS.nil _ _, Below.refl _ _⟩
  case round =>
    obtain ⟨k, rfl, hk, rfl, ho, hB⟩ := hrel
    have hln := share_len s f t N k
    obtain ⟨⟨⟨C0, C1, C2, C3, C4, C5, C6⟩, _⟩, R0, R1⟩ : _ ∧ _ ∧ _ := ⟨HX3.out.1.below hB, keepCell hB HX3.out.2.1, keepCell hB HX3.out.2.2⟩
    have HRr := Lib.hid (keepSt hB HR3.out)
    obtain ⟨bk, hbk⟩ : ∃ bk, bndM s f t N k = bk := ⟨_, rfl⟩
    have HBK := Lib.hid hbk
    rw [hbk]
    clear hbk
    obtain ⟨av, nv, rfl, _⟩ := ho.form
    have s0 : IntKind.i64.wrap ((N : Int) - 1) = (N : Int) - 1 := by rw [IntKind.wrap_i64]; omega
    by_cases hlt : k < N
    · by_cases hl2 : k + 1 < N
      · have g4 : decide ((k : Int) < (N : Int) - 1) = true := by simp; omega
        have hpb := HPB.out (k + 1) (by omega)
        have hpp := HPT.out ((k : Int) + 1) M N
        have haa := HAA.out f (partM ((k : Int) + 1) M N)
        have hbb := HBk.out k hl2
        rw [show ((k + 1 : Nat) : Int) = (k : Int) + 1 by omega] at hpb
        obtain ⟨pm, hpm⟩ : ∃ pm, partM ((k : Int) + 1) M N = pm := ⟨_, rfl⟩
        rw [hpm] at hpb haa hbb
        have hpp := fun W => hpp W (by omega) (by omega) (by omega) (by omega) bM.1 bM.2
        rw [hpm] at hpp
        have haa := fun W hh => haa W hh (by omega) (by omega) hpb.1 (by omega)
        obtain ⟨⟨u1, u2⟩, hu⟩ : ∃ p, addM s f pm = p := ⟨_, rfl⟩
        rw [hu] at haa hbb
        simp only at haa hbb
        have HBB := Lib.hid hbb
        have HPP := Lib.hid hpp
        have HAAk := Lib.hid haa
        have s1 : IntKind.i64.wrap ((k : Int) + 1) = (k : Int) + 1 := by rw [IntKind.wrap_i64]; omega
        clear hpm hu hbb hpp haa
        have e0 := ext_cell C0
        have e1 := ext_cell C1
        have e2 := ext_cell C2
        have e3 := ext_cell C3
        have e4 := ext_cell C4
        have e5 := ext_cell C5
        have e6 := ext_cell C6
        have e7 := ext_cell R0
        have e8 := ext_cell R1
        have ER : Hid (∀ X, RdSt (extOf _ X) s _ _ _) := fun X => keepSt (extOf_below _ X) HRr.out
        go_wp2_with fail
        refine wp_region_ext (by kernel_rfl) (by kernel_rfl) ?_
        iterate 13 (go_big_quiet_step ((first | (go_at_call 69; refine calls_ext (HPP.out _)) | (go_at_call 42; refine calls_ext (HAAk.out _ (ER.out _))))))
        refine wpQuiet_nil ?_
        intro wq hbq
        have hBq := keepBelow hB hbq
        have hoq := ho.below hbq
        clear hbq e0 e1 e2 e3 e4 e5 e6 e7 e8 C0 C1 C2 C3 C4 C5 C6 R0 R1
        go_wp2_with (at_builtin; refine wpList_app_span rfl (.tmp 62) (.tmp 66) rfl rfl hoq hBq rfl rfl (by omega) ?_; intro v1 w9 o1 b1 k1 z1; clear k1)
        go_roundw
        case rel => exact ⟨k + 1, by go_num, by omega, by rw [HBB.out], by rw [share_succ, HBK.out, HBB.out]; exact o1, b1⟩
        case measure => simp [intOf]; omega

      · have g4 : decide ((k : Int) < (N : Int) - 1) = false := by simp; omega
        have hNk : N = k + 1 := by omega
        have HBN2 : Hid (bndM s f t N (k + 1) = t) := by unfold Hid; rw [← hNk]; exact HBN.out
        have HNK := Lib.hid hNk
        clear hNk
        go_wp2_with (at_builtin; refine wpList_app_span rfl (.tmp 62) (.tmp 66) rfl rfl ho hB rfl rfl (by omega) ?_; intro v1 w9 o1 b1 k1 z1; clear k1)
        go_roundw
        case rel => exact ⟨k + 1, by go_num, by omega, by rw [HBN2.out], by rw [share_succ, HBK.out, HBN2.out]; exact o1, b1⟩
        case measure => simp [intOf]; omega

    · obtain rfl : k = N := by omega
      go_wp2
      go_ret2
      exact ⟨_, by rw [HQ.out]; rfl, by rw [HQ.out]; exact ho.mono hws, keepBelow hB3 hB⟩
end Go.Proofs.YtkfonfheakpcbaaGreat
