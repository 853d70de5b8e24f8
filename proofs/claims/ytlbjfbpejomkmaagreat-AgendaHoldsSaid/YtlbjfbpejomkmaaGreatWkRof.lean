import Derived.Test.YtlbjfbpejomkmaaGreatWkBg
import Derived.Test.YtlbjfbpejomkmaaGreatWkBh
import Derived.Test.YtlbjfbpejomkmaaGreatWkBi
/- runs.Of. -/
namespace Go.Proofs.YtlbjfbpejomkmaaGreat
open Go.RowKit Wk

theorem of_cmp : CmpFrom 95 := by
  intro x y W
  have hx : -1152921504606846976 ≤ (valB x).1 ∧ (valB x).1 ≤ 1152921504606846976 := ⟨x.lo, x.hi⟩
  have hy : -1152921504606846976 ≤ (valB y).1 ∧ (valB y).1 ≤ 1152921504606846976 := ⟨y.lo, y.hi⟩
  generalize valB x = a at *
  generalize valB y = b at *
  obtain ⟨a1, a2⟩ := a
  obtain ⟨b1, b2⟩ := b
  simp only at hx hy ⊢
  have s1 : IntKind.i64.wrap (a1 - b1) = a1 - b1 := by rw [IntKind.wrap_i64]; omega
  go_enter Tryz.func95, Tryz.ntmps95
  go_wp2
  go_ret
  exact ⟨rfl, 0, _, by rw [Go.Sort.alloc_eq_grow, Go.Sort.alloc_eq_grow, Go.Sort.grow_grow]; rfl⟩

def allV (l : List Sp) : Bool := l.all ivB
theorem allV_iff (l : List Sp) : allV l = true ↔ ∀ i, i < l.length → ivB (l.getD i (0, 0)) = true := by
  unfold allV
  rw [List.all_eq_true]
  constructor
  · intro h i hi
    exact h _ (idx_mem hi)
  · intro h x hx
    obtain ⟨i, hi, rfl⟩ := mem_idx hx
    exact h i hi
def NotIv (g : Nat) : Prop := ∀ (x y : Int) (W : World), Calls Tryz.prog g #[.agg #[.int .i64 x, .int .i64 y]] W fun e w' => e = .returned (.bool (!ivB (x, y))) ∧ Below W.heap.size W w'
theorem notiv_runs : NotIv 92 := by
  intro x y W
  have H := Lib.hid (fun W => ivalid_any x y W)
  go_enter Tryz.func92, Tryz.ntmps92
  go_wp2_with fail
  refine (H.out _).mono ?_
  rintro e w1 ⟨rfl, hb1⟩
  go_wp2
  go_ret
  exact ⟨rfl, keepBelow ((Below.refl _ W).alloc (Nat.le_refl _) _) hb1⟩
set_option maxHeartbeats 1000000 in
theorem idxV_runs (v : Value) (L : List Sp) (w : World) (h : RdS w v L) :
    Calls Tryz.prog 89 #[v, .func (.func 92) #[] #[]] w fun e w' => (∃ r : Int, e = .returned (.int .i64 r) ∧ (decide (0 ≤ r) = !allV L)) ∧ Below w.heap.size w w' := by
  have H := Lib.hid (fun x y W => notiv_runs x y W)
  obtain ⟨a, c, rfl, hl, hc⟩ := h
  have HC := Lib.hid hc
  clear hc
  go_enter Tryz.func89, Tryz.ntmps89
  go_wp2_with fail
  go_loopw [8] (fun u wr => ∃ k : Nat, u = .int .i64 k ∧ k ≤ L.length ∧ Hid (∀ i, i < k → ivB (L.getD i (0, 0)) = true) ∧ Below w.heap.size w wr) (fun u _ => L.length - (intOf u).toNat)
  case atStart => exact ⟨0, rfl, Nat.zero_le _, fun i hi => by omega, Below.refl _ _⟩
  case round =>
    obtain ⟨k, rfl, hk, HZ, hB⟩ := hrel
    by_cases hlt : k < L.length
    · obtain ⟨b, o, x, y, rfl, hbw, HXY, d1, d2⟩ := rd_at HC.out hB hlt
      go_wp2_with fail
      refine (H.out x y _).mono ?_
      rintro e w1 ⟨rfl, hb1⟩
      have hB1 := keepBelow hB hb1
      cases hlx : ivB (x, y) with
      | true =>
        have HL := Lib.hid hlx
        clear hlx
        go_wp2
        go_roundw
        case rel =>
          refine ⟨k + 1, by go_num, by omega, fun i hi => ?_, hB1⟩
          rcases Nat.lt_succ_iff_lt_or_eq.1 hi with h | rfl
          · exact HZ.out i h
          · rw [HXY.out]; exact HL.out
        case measure => simp [intOf]; omega
      | false =>
        have HL := Lib.hid hlx
        clear hlx
        have hA : allV L = false := by
          cases hA : allV L with
          | false => rfl
          | true => have := (allV_iff L).1 hA k hlt; rw [HXY.out, HL.out] at this; cases this
        go_wp2
        go_ret
        exact ⟨⟨k, rfl, by rw [hA]; simp⟩, hB1⟩
    · have hA : allV L = true := (allV_iff L).2 fun i hi => HZ.out i (by omega)
      go_wp2
      go_ret
      exact ⟨⟨-1, rfl, by rw [hA]; simp⟩, hB⟩
theorem conV_runs (v : Value) (L : List Sp) (w : World) (h : RdS w v L) :
    Calls Tryz.prog 54 #[v, .func (.func 92) #[] #[]] w fun e w' => e = .returned (.bool (!allV L)) ∧ Below w.heap.size w w' := by
  have H := Lib.hid (fun W h => idxV_runs v L W h)
  have HD := Lib.hid h
  obtain ⟨a, c, rfl, _⟩ := h
  go_enter Tryz.func54, Tryz.ntmps54
  go_wp2_with fail
  refine (H.out _ HD.out).mono ?_
  rintro e w1 ⟨⟨r, rfl, hr⟩, hb1⟩
  have HRR := Lib.hid hr
  clear hr
  go_wp2
  go_ret
  exact ⟨ret_bool HRR.out, hb1⟩
def unL (l : List Sp) : List Sp := memF (inL l) (-4398046511104) (8796093022208 : Int).toNat
theorem un_of {l L : List Sp} (h : allV l = true) (hc : Canon L) (hv : ∀ x, inL L x = inL l x) : L = unL l := by
  have := memF_of (h := inL l) (f := -4398046511104) (t := 4398046511104) (by omega) hc fun x => by
    rw [hv x]
    by_cases hx : -4398046511104 ≤ x ∧ x < 4398046511104
    · rw [decide_eq_true hx.1, decide_eq_true hx.2]; rfl
    · cases hi : inL l x with
      | false => simp
      | true =>
        exfalso
        obtain ⟨s, hs, h1, h2⟩ := inL_mem hi
        obtain ⟨i, hi', rfl⟩ := mem_idx hs
        have := (ivB_iff _).1 ((allV_iff l).1 h i hi')
        omega
  rwa [show (4398046511104 - -4398046511104 : Int) = 8796093022208 by omega] at this
def runsOfM (l : List Sp) : List Sp × Int := if allV l = false then ([], 1) else dnM (unL l)
def RnOfPost (l : List Sp) (w : World) (e : Ending) (w' : World) : Prop := ∃ v, e = .returned (.tuple #[v, .int .i64 (runsOfM l).2]) ∧ OwnS w' w.heap.size v (runsOfM l).1 ∧ Below w.heap.size w w'

set_option maxRecDepth 100000 in
set_option maxHeartbeats 4000000 in
theorem runsOf_any (v : Value) (L : List Sp) (w : World) (h : RdS w v L) (hl : L.length ≤ 1000000) :
    Calls Tryz.prog 60 #[v] w (RnOfPost L w) := by
  have HCN := Lib.hid (fun W h => conV_runs v L W h)
  have HCL := Lib.hid (fun W h => clone_any v L W h)
  have HR0 := Lib.hid h
  obtain ⟨aa, ca, rfl⟩ := h.form
  clear h
  obtain ⟨av, hav⟩ : ∃ av, allV L = av := ⟨_, rfl⟩
  rw [hav] at HCN
  have HAV := Lib.hid hav
  clear hav
  cases av with
  | false =>
    have HM : Hid (runsOfM L = ([], 1)) := by unfold Hid runsOfM; rw [if_pos HAV.out]
    go_enter Tryz.func60, Tryz.ntmps60
    go_wp2_with fail
    refine (HCN.out _ HR0.out).mono ?_
    rintro e w1 ⟨rfl, hb1⟩
    go_wp2
    go_ret2
    exact ⟨.slice none 0 0, by rw [HM.out]; rfl, by rw [HM.out]; exact OwnS.nil _ _, hb1⟩
  | true =>
  have HM : Hid (runsOfM L = dnM (unL L)) := by unfold Hid runsOfM; rw [if_neg (by rw [HAV.out]; simp)]
  have hbd : ∀ s ∈ L, -1152921504606846976 ≤ s.1 ∧ s.1 ≤ 1152921504606846976 := fun s hs => by
    obtain ⟨i, hi, rfl⟩ := mem_idx hs
    have := (ivB_iff _).1 ((allV_iff L).1 HAV.out i hi)
    omega
  have hps : ∀ s ∈ L, s.1 < s.2 := fun s hs => by
    obtain ⟨i, hi, rfl⟩ := mem_idx hs
    have := (ivB_iff _).1 ((allV_iff L).1 HAV.out i hi)
    omega
  have HBP := Lib.hid (And.intro hbd hps)
  clear hbd hps
  go_enter Tryz.func60, Tryz.ntmps60
  go_wp2_with fail
  refine (HCN.out _ HR0.out).mono ?_
  rintro e wa ⟨rfl, hba⟩
  have HRa := Lib.hid (keepRd hba HR0.out)
  have HBa := Lib.hid hba
  clear hba
  go_wp2_with fail
  refine (HCL.out _ HRa.out).mono ?_
  rintro e W ⟨v2, rfl, h2, hb2⟩
  have HB2 := Lib.hid (keepBelow HBa.out hb2)
  have h3 : OwnS W w.heap.size v2 L := h2.mono HBa.out.size
  have HS := Lib.hid (sortF_own 95 of_cmp (enters_of Tryz.func95 (by kernel_rfl) rfl) v2 L w W h3 HB2.out HBP.out.1 (by omega))
  obtain ⟨a0, c0, rfl, _⟩ := h2.form
  clear h2 h3 hb2 HRa HR0 HBa HCN HCL
  go_wp2_with fail
  refine HS.out.mono ?_
  rintro e w1 ⟨L', rfl, hp, hso, ho, hB1⟩
  have hlen : L'.length = L.length := hp.length_eq
  have HRD := Lib.hid (ho.rd (by omega))
  have HPW := Lib.hid (And.intro hp hso)
  have HB1 := Lib.hid hB1
  have HZ := Lib.hid hB1.size
  clear ho hp hso hB1
  obtain ⟨p1, q1, hpq, hRl, HCC⟩ := HRD.out
  injection hpq with e1 e2 e3
  subst e1 e3
  have HC := Lib.hid HCC
  clear HCC
  rw [← hlen] at hl ⊢
  clear hlen hRl
  go_wp2_with fail
  go_loopw [5, 17] (fun u i wr => ∃ k : Nat, k ≤ L'.length ∧ i = .int .i64 k ∧ OwnS wr w1.heap.size u (joinL (L'.take k)) ∧ Below w1.heap.size w1 wr) (fun _ i _ => L'.length - (intOf i).toNat)
  case atStart => exact ⟨0, Nat.zero_le _, rfl, OwnS.nil _ _, Below.refl _ _⟩
  case round =>
    obtain ⟨k, hk, rfl, ho, hB⟩ := hrel
    by_cases hlt : k < L'.length
    · have hj := Lib.hid (join_take L' k hlt)
      have hl1 := joinL_len L' k hk
      obtain ⟨b, o, x, y, rfl, hbw, HXY, d1, d2⟩ := rd_at HC.out hB hlt
      rw [HXY.out] at hj
      obtain ⟨X, hX⟩ : ∃ X, joinL (L'.take k) = X := ⟨_, rfl⟩
      rw [hX] at ho hl1 hj
      clear hX
      have hba : Below wr.heap.size wr (wr.alloc (.cells #[.int .i64 x, .int .i64 y] 46)) := (Below.refl _ _).alloc (Nat.le_refl _) _
      have hBa := keepBelow hB hba
      have hoa := ho.below hba
      have g0 := keepCell hba d1
      have b0 : (wr.alloc (.cells #[.int .i64 x, .int .i64 y] 46)).cell? ⟨wr.heap.size, 0, none⟩ = some (.int .i64 x) := by simp [go_sem]
      have b1 : (wr.alloc (.cells #[.int .i64 x, .int .i64 y] 46)).cell? ⟨wr.heap.size, 1, none⟩ = some (.int .i64 y) := by simp [go_sem]
      have hsa : (wr.alloc (.cells #[.int .i64 x, .int .i64 y] 46)).heap.size = wr.heap.size + 1 := by simp
      by_cases hX0 : X = []
      · subst hX0
        have hjn : Hid (joinL (L'.take (k + 1)) = [] ++ [(x, y)]) := by rw [hj.out]; unfold Hid joinStep; rw [if_pos rfl]; rfl
        obtain ⟨a8, c8, rfl, _⟩ := ho.form
        go_wp2_with fail
        refine wp_region_ext (by kernel_rfl) (by kernel_rfl) ?_
        iterate 13 (go_big_quiet_step (fail))
        refine wpQuiet_nil ?_
        intro w5 hb5
        have k0 := keepCell hb5 b0
        have k1 := keepCell hb5 b1
        have hB5 := keepBelow hBa hb5
        have ho5 := hoa.below hb5
        clear b0 b1 hb5 hBa hoa hba
        go_wp2_with (at_builtin; refine wpList_app_span rfl (.tmp 50) (.tmp 52) rfl rfl ho5 hB5 rfl rfl (by simp) ?_; intro v1 w9 o1 b1 k1 z1; clear k1)
        go_roundw
        case rel => exact ⟨k + 1, by omega, by go_num, by rw [hjn.out]; exact o1, b1⟩
        case measure => simp [intOf]; omega
      · obtain ⟨K, p, q, rfl⟩ : ∃ K p q, X = K ++ [(p, q)] := by
          refine ⟨X.dropLast, (X.getLast hX0).1, (X.getLast hX0).2, ?_⟩
          exact (List.dropLast_concat_getLast hX0).symm
        have hlK : (K ++ [(p, q)]).length = K.length + 1 := by simp
        have hgl : (K ++ [(p, q)]).getD ((K ++ [(p, q)]).length - 1) (0, 0) = (p, q) := by
          rw [hlK, Nat.add_sub_cancel, List.getD_eq_getElem?_getD, List.getElem?_append_right (Nat.le_refl _)]; simp
        have hdl : (K ++ [(p, q)]).dropLast = K := by simp
        have HJ : Hid (joinL (L'.take (k + 1)) = if x ≤ q then K ++ [(p, max q y)] else (K ++ [(p, q)]) ++ [(x, y)]) := by
          rw [hj.out]
          unfold Hid joinStep
          rw [if_neg hX0, hgl, hdl]
        rw [hlK] at hl1
        obtain ⟨a8, c8, e8, hf8⟩ := ho.form
        rw [hlK] at e8 hf8
        subst e8
        obtain ⟨g8, rfl, hg8, _, cl⟩ := hf8 K.length (by omega)
        rw [show (K ++ [(p, q)]).getD K.length (0, 0) = (p, q) by rw [hlK, Nat.add_sub_cancel] at hgl; exact hgl] at cl
        simp only at cl
        have fz := ho.frozen (K.length * 2 + 1)
        have cla := keepCell hba cl
        have ecl := ext_cell cla
        have eb0 := ext_cell b0
        have eb1 := ext_cell b1
        obtain ⟨m, hm⟩ : ∃ m, K.length = m := ⟨_, rfl⟩
        have HM := Lib.hid hm
        rw [hm] at hl1 cl fz cla ecl ho hoa ⊢
        clear hm hf8 hgl hdl hlK hX0 hj
        have hm0 : m < 1000000 := by omega
        by_cases hc : x ≤ q
        · have HJ2 : Hid (joinL (L'.take (k + 1)) = K ++ [(p, max q y)]) := by have := HJ.out; rwa [if_pos hc] at this
          clear HJ
          go_wp2_with fail
          refine wp_region_ext (by kernel_rfl) (by kernel_rfl) ?_
          iterate 13 (go_big_quiet_step (fail))
          refine wpQuiet_nil ?_
          intro w5 hb5
          have k0 := keepCell hb5 b0
          have k1 := keepCell hb5 b1
          have kl := keepCell hb5 cla
          have hB5 := keepBelow hBa hb5
          have ho5 := hoa.below hb5
          have f5 := ho5.frozen (m * 2 + 1)
          clear b0 b1 hb5 hBa hoa hba ecl eb0 eb1
          have hbd5 : Below w5.heap.size w5 w5.drew := (Below.refl _ _).drew
          have j0 := keepCell hbd5 k0
          have j1 := keepCell hbd5 k1
          have jl := keepCell hbd5 kl
          have hB6 := keepBelow hB5 hbd5
          have ho6 := ho5.below hbd5
          have jf := ho6.frozen (m * 2 + 1)
          go_wp2_with fail
          refine wp_region_still_tail 12 (by kernel_rfl) (by kernel_rfl) ?_
          simp only [List.take_succ_cons, List.take_zero, List.drop_succ_cons, List.drop_zero]
          change wpStill _ _ w5.drew _ _ _
          have s1 : IntKind.i64.wrap (m : Int) = m := by rw [IntKind.wrap_i64]; omega
          have s4 : (0 : Int) ≤ (m : Int) := by omega
          have s5 : (m : Int) < (m : Int) + 1 := by omega
          repeat still_step
          refine wpStill_nil ?_
          change wpList _ _ _ _ _ w5.drew
          generalize w5.drew = w6 at *
          have hst := ho6.setLast (max q y)
          rw [HM.out] at hst
          have HST := Lib.hid hst.1
          have HBE : Hid (Below w1.heap.size w1 (w6.setCell ⟨g8, m * 2 + 1, none⟩ (.int .i64 (max q y)))) := hB6.grown hst.2 hB6.size (fun x hx => by cases hx; exact (ho6.lt _ rfl).1)
          clear hst ho6 hB6 hB5 ho5
          go_wp2_with fail
          go_roundw
          case rel => exact ⟨k + 1, by omega, by go_num, by rw [HJ2.out]; exact HST.out, HBE.out⟩
          case measure => simp [intOf]; omega
        · have HJ2 : Hid (joinL (L'.take (k + 1)) = (K ++ [(p, q)]) ++ [(x, y)]) := by have := HJ.out; rwa [if_neg hc] at this
          go_wp2_with fail
          refine wp_region_ext (by kernel_rfl) (by kernel_rfl) ?_
          iterate 13 (go_big_quiet_step (fail))
          refine wpQuiet_nil ?_
          intro w5 hb5
          have k0 := keepCell hb5 b0
          have k1 := keepCell hb5 b1
          have hB5 := keepBelow hBa hb5
          have ho5 := hoa.below hb5
          clear b0 b1 hb5 hBa hoa hba
          go_wp2_with (at_builtin; refine wpList_app_span rfl (.tmp 50) (.tmp 52) rfl rfl ho5 hB5 rfl rfl (by simp; have := HM.out; omega) ?_; intro v1 w9 o1 b1 k1 z1; clear k1)
          go_roundw
          case rel => exact ⟨k + 1, by omega, by go_num, by rw [HJ2.out]; exact o1, b1⟩
          case measure => simp [intOf]; omega
    · have ht : L'.take k = L' := List.take_of_length_le (by omega)
      rw [ht] at ho
      obtain ⟨j1, j2, j3⟩ := join_perm HPW.out.1 HPW.out.2 HBP.out.2
      have hun := un_of HAV.out j1 j2
      rw [hun] at ho
      have HUL : Hid ((unL L).length ≤ 1000000) := by unfold Hid; rw [← hun]; have := HPW.out.1.length_eq; omega
      have HO := Lib.hid ho
      have HBB := Lib.hid hB
      obtain ⟨a8, c8, rfl, _⟩ := ho.form
      have HDN := Lib.hid (rdone_any (.slice a8 (unL L).length c8) (unL L) w.heap.size _ (ho.mono HZ.out) (by have := HUL.out; omega))
      clear ho j1 j2 j3 hun
      go_wp2_with fail
      refine HDN.out.mono ?_
      rintro e w5 ⟨⟨u, rfl, ou⟩, hw5⟩
      subst hw5
      have HU := Lib.hid ou
      obtain ⟨a9, c9, rfl, _⟩ := ou.form
      clear ou
      go_wp2
      go_ret2
      exact ⟨_, by rw [HM.out]; rfl, by rw [HM.out]; exact HU.out, HB1.out.trans (HBB.out.mono HZ.out)⟩
end Go.Proofs.YtlbjfbpejomkmaaGreat
