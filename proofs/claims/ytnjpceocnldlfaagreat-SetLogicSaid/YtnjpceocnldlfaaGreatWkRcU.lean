import Derived.Test.YtnjpceocnldlfaaGreatWkBi
/- runs.Union. -/
namespace Go.Proofs.YtnjpceocnldlfaaGreat
open Go.RowKit Wk

set_option maxRecDepth 100000 in
set_option maxHeartbeats 8000000 in
theorem rcomb_Union (va vb : Value) (a b : List Sp) (w : World) (ha : RdS w va a) (hb : RdS w vb b) :
    Calls Tryz.prog 136 #[va, vb, .func (.func 137) #[] #[]] w (RcPost 0 a b w) := by
  have HV1 := Lib.hid (fun W h => rvalid_any va a W h)
  have HV2 := Lib.hid (fun W h => rvalid_any vb b W h)
  have HE1 := Lib.hid (fun n W h hn => rend_any va a n W h hn)
  have HE2 := Lib.hid (fun n W h hn => rend_any vb b n W h hn)
  have HRU := Lib.hid (fun x y W => runs_Union_rule x y W)
  have HDN := Lib.hid (fun v L B W h hl => rdone_any v L B W h hl)
  have HCA := Lib.hid (fun h => canon_of_rvB (l := a) h)
  have HCB := Lib.hid (fun h => canon_of_rvB (l := b) h)
  have HRC : Hid (rcM 0 a b = if rvB a = false ∨ rvB b = false then ([], 1) else dnM (mixM 0 a b)) := rfl
  have HR1 := Lib.hid ha
  have HR2 := Lib.hid hb
  obtain ⟨p1, c1, rfl, _⟩ := ha
  obtain ⟨p2, c2, rfl, _⟩ := hb

  generalize hva : rvB a = ra at *
  generalize hvb : rvB b = rb at *
  clear hva hvb
  go_enter Tryz.func136, Tryz.ntmps136
  go_wp2_with fail
  refine (HV1.out _ HR1.out).mono ?_
  rintro e w1 ⟨rfl, hb1⟩
  have HR11 := Lib.hid (keepRd hb1 HR1.out)
  have HR12 := Lib.hid (keepRd hb1 HR2.out)
  cases ra with
  | false =>
    have HQ : Hid (rcM 0 a b = ([], 1)) := by unfold Hid; rw [HRC.out, if_pos (.inl rfl)]
    clear HR1 HR2 HR11 HR12 HV1
    go_wp2
    go_ret2
    exact ⟨.slice none 0 0, by rw [HQ.out]; rfl, by rw [HQ.out]; exact OwnS.nil _ _, hb1⟩
  | true =>
  go_wp2_with fail
  refine (HV2.out _ HR12.out).mono ?_
  rintro e w2 ⟨rfl, hb2⟩
  have HRA := Lib.hid (keepRd hb2 HR11.out)
  have HRB := Lib.hid (keepRd hb2 HR12.out)
  have hB2 := keepBelow hb1 hb2
  clear HR1 HR2 HR11 HR12 HV1 HV2 hb1 hb2
  cases rb with
  | false =>
    have HQ : Hid (rcM 0 a b = ([], 1)) := by unfold Hid; rw [HRC.out, if_pos (.inr rfl)]
    go_wp2
    go_ret2
    exact ⟨.slice none 0 0, by rw [HQ.out]; rfl, by rw [HQ.out]; exact OwnS.nil _ _, hB2⟩
  | true =>
  obtain ⟨ca, ba, la⟩ := HCA.out (by trivial)
  obtain ⟨cb, bb, lb⟩ := HCB.out (by trivial)
  have HC := Lib.hid (And.intro ca cb)
  have HBD := Lib.hid (And.intro ba bb)
  have HRC2 : Hid (rcM 0 a b = dnM (mixM 0 a b)) := by unfold Hid; rw [HRC.out, if_neg (by simp)]
  clear ca cb ba bb HCA HCB HRC
  have hws := hB2.size
  go_wp2_with fail
  go_loopw [8, 9, 10, 12, 13] (fun u8 u9 u10 u12 u13 wr => ∃ (p : Int) (i k : Nat) (ins : Bool) (fr : Int) (L : List Sp), u9 = .int .i64 i ∧ u10 = .int .i64 k ∧ u12 = .bool ins ∧ u13 = .int .i64 fr ∧ OwnS wr w2.heap.size u8 L ∧ Hid (MSt (ruleB 0) a b p i k ins fr L) ∧ i ≤ 2 * a.length ∧ k ≤ 2 * b.length ∧ 2 * L.length ≤ i + k ∧ -4398046511104 ≤ fr ∧ fr ≤ 4398046511104 ∧ Below w2.heap.size w2 wr) (fun _ u9 u10 _ _ _ => (2 * a.length - (intOf u9).toNat) + (2 * b.length - (intOf u10).toNat))
  case atStart =>
    obtain ⟨p, hp⟩ := MSt.start (R := ruleB 0) (rule_ff _) HC.out.1 HC.out.2 0
    exact ⟨p, 0, 0, false, 0, [], rfl, rfl, rfl, rfl, OwnS.nil _ _, hp, Nat.zero_le _, Nat.zero_le _, Nat.zero_le _, by omega, by omega, Below.refl _ _⟩
  case round =>
    obtain ⟨p, i, k, ins, fr, L, rfl, rfl, rfl, rfl, ho, HS, hi, hk, hL, hf1, hf2, hB⟩ := hrel
    have HRAr := Lib.hid (keepRd hB HRA.out)
    have HRBr := Lib.hid (keepRd hB HRB.out)
    have q1 : IntKind.i64.wrap (2 * (a.length : Int)) = 2 * (a.length : Int) := by rw [IntKind.wrap_i64]; omega
    have q2 : IntKind.i64.wrap (2 * (b.length : Int)) = 2 * (b.length : Int) := by rw [IntKind.wrap_i64]; omega
    have HOW := Lib.hid ho
    obtain ⟨av, nv, rfl, _⟩ := ho.form
    clear ho
    by_cases hdone : i = 2 * a.length ∧ k = 2 * b.length
    · have t0 : decide ((i : Int) < 2 * (a.length : Int)) = false := by simp; omega
      have t1 : decide ((k : Int) < 2 * (b.length : Int)) = false := by simp; omega
      obtain ⟨d1, d2, d3⟩ := HS.out.done (rule_ff _) hdone.1 hdone.2
      have hmx := mix_of HBD.out.1 HBD.out.2 d2 d3
      rw [← hmx] at HRC2
      have HD := Lib.hid (HDN.out _ _ _ _ HOW.out (by omega))
      clear hmx d1 d2 d3 hdone
      go_wp2_with fail
      refine HD.out.mono ?_
      rintro e w9 ⟨⟨u, rfl, hu⟩, rfl⟩
      obtain ⟨au, nu, rfl, _⟩ := hu.form
      go_wp2
      go_ret2
      exact ⟨_, by rw [HRC2.out]; rfl, by rw [HRC2.out]; exact hu.mono hws, keepBelow hB2 hB⟩
    · have hik : i < 2 * a.length ∨ k < 2 * b.length := by omega
      obtain ⟨x, hx⟩ : ∃ x, endX a i = x := ⟨_, rfl⟩
      obtain ⟨y, hy⟩ : ∃ y, endX b k = y := ⟨_, rfl⟩
      obtain ⟨at', hat⟩ : ∃ z, min x y = z := ⟨_, rfl⟩
      obtain ⟨i', hi'⟩ : ∃ i', (x = at' → i' = i + 1) ∧ (x ≠ at' → i' = i) := by
        by_cases e : x = at'
        · exact ⟨i + 1, fun _ => rfl, fun hh => absurd e hh⟩
        · exact ⟨i, fun hh => absurd hh e, fun _ => rfl⟩
      obtain ⟨k', hk'⟩ : ∃ k', (y = at' → k' = k + 1) ∧ (y ≠ at' → k' = k) := by
        by_cases e : y = at'
        · exact ⟨k + 1, fun _ => rfl, fun hh => absurd e hh⟩
        · exact ⟨k, fun hh => absurd hh e, fun _ => rfl⟩
      obtain ⟨oa, hoa⟩ : ∃ oa, decide (i' % 2 = 1) = oa := ⟨_, rfl⟩
      obtain ⟨ob, hob⟩ : ∃ ob, decide (k' % 2 = 1) = ob := ⟨_, rfl⟩
      obtain ⟨r, hr⟩ : ∃ r, ruleB 0 oa ob = r := ⟨_, rfl⟩
      obtain ⟨g1, g2, g3, g4, g5, g6⟩ := HS.out.go HC.out.1 HC.out.2 HBD.out.1 HBD.out.2 hik hx hy hat hi' hk' (r := r) (by rw [hoa, hob]; exact hr)
      have hln := g1.len
      have HG := Lib.hid g1
      have K1 := HE1.out i wr HRAr.out hi
      have K2 := HE2.out k wr HRBr.out hk
      rw [hx] at K1
      rw [hy] at K2
      have K1 := Lib.hid K1
      have K2 := Lib.hid K2
      have K3 := HRU.out oa ob wr
      rw [hr] at K3
      have K3 := Lib.hid K3
      have o1 : ((i' : Int) % 2 == 1) = oa := by rw [← hoa, Bool.eq_iff_iff]; simp; omega
      have o2 : ((k' : Int) % 2 == 1) = ob := by rw [← hob, Bool.eq_iff_iff]; simp; omega
      have HII := Lib.hid hi'
      have HKK := Lib.hid hk'
      have HRR := Lib.hid hr
      clear hr hoa hob g1 hx hy hdone hi' hk'
      have s1 : IntKind.i64.wrap ((i : Int) + 1) = (i : Int) + 1 := by rw [IntKind.wrap_i64]; omega
      have s2 : IntKind.i64.wrap ((k : Int) + 1) = (k : Int) + 1 := by rw [IntKind.wrap_i64]; omega
      by_cases hia : i < 2 * a.length
      · have t0 : decide ((i : Int) < 2 * (a.length : Int)) = true := by simp; omega
        clear hia hik
        go_upto_region 8 with fail
        go_cut [14] from 24 to 80 (fun u wx => u = .int .i64 at' ∧ wx = wr)
        case first =>
          have HAT := Lib.hid hat
          clear hat
          go_wp2_with fail
          refine K1.out.mono ?_
          rintro e wa ⟨rfl, hwa⟩
          subst hwa
          go_wp2_with fail
          refine K2.out.mono ?_
          rintro e wa ⟨rfl, hwa⟩
          subst hwa
          go_wp2_with fail
          all_goals go_meet
          all_goals
            have hh := HAT.out
            first
              | exact ⟨by rw [show x = at' by omega], rfl⟩
              | exact ⟨by rw [show y = at' by omega], rfl⟩
        case rest =>
        obtain ⟨rfl, hwc⟩ := hcut
        subst hwc
        clear hat
        go_wp2_with fail
        refine K1.out.mono ?_
        rintro e wa ⟨rfl, hwa⟩
        subst hwa
        go_upto_if 50 with fail
        go_cut [9] from 24 to 80 (fun u wx => u = .int .i64 i' ∧ wx = wc)
        case first =>
          by_cases e : x = at'
          · have t2 : (x == at') = true := by simpa using e
            have hh := HII.out.1 e
            clear e
            go_wp2_with fail
            go_meet
            case rel => exact ⟨by rw [hh]; go_num, rfl⟩
          · have t2 : (x == at') = false := by simpa using e
            have hh := Lib.hid (HII.out.2 e)
            clear e
            go_wp2_with fail
            go_meet
            case rel => exact ⟨by rw [hh.out], rfl⟩
        case rest =>
        obtain ⟨rfl, hwc⟩ := hcut
        subst hwc
        go_wp2_with fail
        refine K2.out.mono ?_
        rintro e wa ⟨rfl, hwa⟩
        subst hwa
        go_upto_if 58 with fail
        go_cut [10] from 24 to 80 (fun u wx => u = .int .i64 k' ∧ wx = wc)
        case first =>
          by_cases e : y = at'
          · have t2 : (y == at') = true := by simpa using e
            have hh := HKK.out.1 e
            clear e
            go_wp2_with fail
            go_meet
            case rel => exact ⟨by rw [hh]; go_num, rfl⟩
          · have t2 : (y == at') = false := by simpa using e
            have hh := Lib.hid (HKK.out.2 e)
            clear e
            go_wp2_with fail
            go_meet
            case rel => exact ⟨by rw [hh.out], rfl⟩
        case rest =>
        obtain ⟨rfl, hwc⟩ := hcut
        subst hwc
        go_wp2_with fail
        refine K3.out.mono ?_
        rintro e wa ⟨rfl, hwa⟩
        subst hwa
        have HGG := HG
        clear hln HG
        have hgl := HGG.out.len
        cases r with
        | true =>
          cases ins with
          | true =>
            have hl2 : 2 * L.length ≤ i' + k' := by simp at hgl; omega
            clear hgl
            go_wp2_with fail
            go_roundw
            case rel => exact ⟨at', i', k', true, fr, L, rfl, rfl, rfl, rfl, HOW.out, by unfold Hid; simpa using HGG.out, g2, g3, hl2, hf1, hf2, hB⟩
            case measure => simp [intOf]; omega
          | false =>
            have hl2 : 2 * L.length ≤ i' + k' := by simp at hgl; omega
            clear hgl
            go_wp2_with fail
            go_roundw
            case rel => exact ⟨at', i', k', true, at', L, rfl, rfl, rfl, rfl, HOW.out, by unfold Hid; simpa using HGG.out, g2, g3, hl2, g5, g6, hB⟩
            case measure => simp [intOf]; omega
        | false =>
          cases ins with
          | true =>
            have hl2 : 2 * (L.length + 1) ≤ i' + k' := by simp at hgl; omega
            clear hgl
            go_wp2_with (at_builtin; refine wpList_app_span rfl (.tmp 73) (.tmp 77) rfl rfl HOW.out hB rfl rfl (by omega) ?_; intro v1 w9 o1 b1 k1 z1; clear k1)
            go_roundw
            case rel => exact ⟨at', i', k', false, at', L ++ [(fr, at')], rfl, rfl, rfl, rfl, o1, by unfold Hid; simpa using HGG.out, g2, g3, by simp; omega, g5, g6, b1⟩
            case measure => simp [intOf]; omega
          | false =>
            have hl2 : 2 * L.length ≤ i' + k' := by simp at hgl; omega
            clear hgl
            go_wp2_with fail
            go_roundw
            case rel => exact ⟨at', i', k', false, fr, L, rfl, rfl, rfl, rfl, HOW.out, by unfold Hid; simpa using HGG.out, g2, g3, hl2, hf1, hf2, hB⟩
            case measure => simp [intOf]; omega
      · have t0 : decide ((i : Int) < 2 * (a.length : Int)) = false := by simp; omega
        have t1 : decide ((k : Int) < 2 * (b.length : Int)) = true := by simp; omega
        clear hia hik
        go_upto_region 8 with fail
        go_cut [14] from 24 to 80 (fun u wx => u = .int .i64 at' ∧ wx = wr)
        case first =>
          have HAT := Lib.hid hat
          clear hat
          go_wp2_with fail
          refine K1.out.mono ?_
          rintro e wa ⟨rfl, hwa⟩
          subst hwa
          go_wp2_with fail
          refine K2.out.mono ?_
          rintro e wa ⟨rfl, hwa⟩
          subst hwa
          go_wp2_with fail
          all_goals go_meet
          all_goals
            have hh := HAT.out
            first
              | exact ⟨by rw [show x = at' by omega], rfl⟩
              | exact ⟨by rw [show y = at' by omega], rfl⟩
        case rest =>
        obtain ⟨rfl, hwc⟩ := hcut
        subst hwc
        clear hat
        go_wp2_with fail
        refine K1.out.mono ?_
        rintro e wa ⟨rfl, hwa⟩
        subst hwa
        go_upto_if 50 with fail
        go_cut [9] from 24 to 80 (fun u wx => u = .int .i64 i' ∧ wx = wc)
        case first =>
          by_cases e : x = at'
          · have t2 : (x == at') = true := by simpa using e
            have hh := HII.out.1 e
            clear e
            go_wp2_with fail
            go_meet
            case rel => exact ⟨by rw [hh]; go_num, rfl⟩
          · have t2 : (x == at') = false := by simpa using e
            have hh := Lib.hid (HII.out.2 e)
            clear e
            go_wp2_with fail
            go_meet
            case rel => exact ⟨by rw [hh.out], rfl⟩
        case rest =>
        obtain ⟨rfl, hwc⟩ := hcut
        subst hwc
        go_wp2_with fail
        refine K2.out.mono ?_
        rintro e wa ⟨rfl, hwa⟩
        subst hwa
        go_upto_if 58 with fail
        go_cut [10] from 24 to 80 (fun u wx => u = .int .i64 k' ∧ wx = wc)
        case first =>
          by_cases e : y = at'
          · have t2 : (y == at') = true := by simpa using e
            have hh := HKK.out.1 e
            clear e
            go_wp2_with fail
            go_meet
            case rel => exact ⟨by rw [hh]; go_num, rfl⟩
          · have t2 : (y == at') = false := by simpa using e
            have hh := Lib.hid (HKK.out.2 e)
            clear e
            go_wp2_with fail
            go_meet
            case rel => exact ⟨by rw [hh.out], rfl⟩
        case rest =>
        obtain ⟨rfl, hwc⟩ := hcut
        subst hwc
        go_wp2_with fail
        refine K3.out.mono ?_
        rintro e wa ⟨rfl, hwa⟩
        subst hwa
        have HGG := HG
        clear hln HG
        have hgl := HGG.out.len
        cases r with
        | true =>
          cases ins with
          | true =>
            have hl2 : 2 * L.length ≤ i' + k' := by simp at hgl; omega
            clear hgl
            go_wp2_with fail
            go_roundw
            case rel => exact ⟨at', i', k', true, fr, L, rfl, rfl, rfl, rfl, HOW.out, by unfold Hid; simpa using HGG.out, g2, g3, hl2, hf1, hf2, hB⟩
            case measure => simp [intOf]; omega
          | false =>
            have hl2 : 2 * L.length ≤ i' + k' := by simp at hgl; omega
            clear hgl
            go_wp2_with fail
            go_roundw
            case rel => exact ⟨at', i', k', true, at', L, rfl, rfl, rfl, rfl, HOW.out, by unfold Hid; simpa using HGG.out, g2, g3, hl2, g5, g6, hB⟩
            case measure => simp [intOf]; omega
        | false =>
          cases ins with
          | true =>
            have hl2 : 2 * (L.length + 1) ≤ i' + k' := by simp at hgl; omega
            clear hgl
            go_wp2_with (at_builtin; refine wpList_app_span rfl (.tmp 73) (.tmp 77) rfl rfl HOW.out hB rfl rfl (by omega) ?_; intro v1 w9 o1 b1 k1 z1; clear k1)
            go_roundw
            case rel => exact ⟨at', i', k', false, at', L ++ [(fr, at')], rfl, rfl, rfl, rfl, o1, by unfold Hid; simpa using HGG.out, g2, g3, by simp; omega, g5, g6, b1⟩
            case measure => simp [intOf]; omega
          | false =>
            have hl2 : 2 * L.length ≤ i' + k' := by simp at hgl; omega
            clear hgl
            go_wp2_with fail
            go_roundw
            case rel => exact ⟨at', i', k', false, fr, L, rfl, rfl, rfl, rfl, HOW.out, by unfold Hid; simpa using HGG.out, g2, g3, hl2, hf1, hf2, hB⟩
            case measure => simp [intOf]; omega

theorem runs_Union_any (va vb : Value) (a b : List Sp) (w : World) (ha : RdS w va a) (hb : RdS w vb b) :
    Calls Tryz.prog 83 #[va, vb] w (RcPost 0 a b w) := by
  have H := Lib.hid (rcomb_Union va vb a b w ha hb)
  obtain ⟨p1, c1, rfl, _⟩ := ha
  obtain ⟨p2, c2, rfl, _⟩ := hb
  go_enter Tryz.func83, Tryz.ntmps83
  go_wp2_with fail
  refine H.out.mono ?_
  rintro e w1 ⟨v, rfl, ho, hb1⟩
  have HO := Lib.hid ho
  obtain ⟨av, nv, rfl, _⟩ := ho.form
  clear ho
  go_wp2
  go_ret2
  exact ⟨_, rfl, HO.out, hb1⟩
end Go.Proofs.YtnjpceocnldlfaaGreat
