import Derived.Test.YtnjpceocnldlfaaGreatWkBh
import Derived.Test.YtnjpceocnldlfaaGreatWkPu
import Derived.Test.YtnjpceocnldlfaaGreatWkBth
import Derived.Test.YtnjpceocnldlfaaGreatWkBi
/- periodic.fold. -/
namespace Go.Proofs.YtnjpceocnldlfaaGreat
open Go.RowKit Wk

end Go.Proofs.YtnjpceocnldlfaaGreat
namespace Go.Proofs.YtnjpceocnldlfaaGreat
open Go.RowKit Wk

end Go.Proofs.YtnjpceocnldlfaaGreat
namespace Go.Proofs.YtnjpceocnldlfaaGreat
open Go.RowKit Wk

theorem periodic_Not_rule (x y : Bool) (w : World) :
    Calls Tryz.prog 152 #[.bool x, .bool y] w fun e w' => e = .returned (.bool (ruleB 2 x y)) ∧ w = w' := by
  cases x <;> cases y <;> (go_enter Tryz.func152, Tryz.ntmps152; go_wp2; go_ret; exact ⟨ret_bool (by decide), rfl⟩)

set_option maxRecDepth 100000 in
set_option maxHeartbeats 8000000 in
theorem pcomb_Not (va vb : Value) (a b : List Sp) (w : World) (ha : RdS w va a) (hb : RdS w vb b) (ca : Canon a) (cb : Canon b) (ba : Bnd a) (bb : Bnd b) (la : a.length ≤ 1000000) (lb : b.length ≤ 1000000) :
    Calls Tryz.prog 151 #[va, vb, .func (.func 152) #[] #[]] w (PcPost 2 a b w) := by
  have HE1 := Lib.hid (fun n W h hn => pend_any va a n W h hn)
  have HE2 := Lib.hid (fun n W h hn => pend_any vb b n W h hn)
  have HRU := Lib.hid (fun x y W => periodic_Not_rule x y W)
  have HRA := Lib.hid ha
  have HRB := Lib.hid hb
  obtain ⟨p1, c1, rfl, _⟩ := ha
  obtain ⟨p2, c2, rfl, _⟩ := hb
  have HC := Lib.hid (And.intro ca cb)
  have HBD := Lib.hid (And.intro ba bb)
  clear ca cb ba bb
  go_enter Tryz.func151, Tryz.ntmps151
  go_wp2_with fail
  go_loopw [7, 8, 9] (fun u7 u8 u9 wr => ∃ (p : Int) (i k : Nat) (ins : Bool) (fr : Int) (L : List Sp), u8 = .int .i64 i ∧ u9 = .int .i64 k ∧ OwnS wr w.heap.size u7 (opnL ins fr L) ∧ Hid (MSt (ruleB 2) a b p i k ins fr L) ∧ i ≤ 2 * a.length ∧ k ≤ 2 * b.length ∧ 2 * L.length ≤ i + k ∧ -4398046511104 ≤ fr ∧ fr ≤ 4398046511104 ∧ Below w.heap.size w wr) (fun _ u8 u9 _ => (2 * a.length - (intOf u8).toNat) + (2 * b.length - (intOf u9).toNat))
  case atStart =>
    obtain ⟨p, hp⟩ := MSt.start (R := ruleB 2) (rule_ff _) HC.out.1 HC.out.2 0
    exact ⟨p, 0, 0, false, 0, [], rfl, rfl, OwnS.nil _ _, hp, Nat.zero_le _, Nat.zero_le _, Nat.zero_le _, by omega, by omega, Below.refl _ _⟩
  case round =>
    obtain ⟨p, i, k, ins, fr, L, rfl, rfl, ho, HS, hi, hk, hL, hf1, hf2, hB⟩ := hrel
    have HRAr := Lib.hid (keepRd hB HRA.out)
    have HRBr := Lib.hid (keepRd hB HRB.out)
    have HOW := Lib.hid ho
    obtain ⟨av, nv, rfl, _⟩ := ho.form
    clear ho
    have K1 := Lib.hid (HE1.out i wr HRAr.out hi)
    have K2 := Lib.hid (HE2.out k wr HRBr.out hk)
    by_cases hdone : i = 2 * a.length ∧ k = 2 * b.length
    · obtain ⟨d1, d2, d3⟩ := HS.out.done (rule_ff _) hdone.1 hdone.2
      have hln := HS.out.len
      subst d1
      have HOW2 : Hid (OwnS wr w.heap.size (.slice av (opnL false fr L).length nv) L) := HOW.out
      have HD := Lib.hid hdone
      have HD2 := Lib.hid (And.intro d2 d3)
      simp at hln
      have hlen : L.length ≤ a.length + b.length := by omega
      clear d2 d3 hdone hln
      go_wp2_with fail
      refine K1.out.mono ?_
      rintro e wa ⟨⟨_, h1⟩, hwa⟩
      have h1 := h1 HD.out.1
      subst h1
      subst hwa
      go_wp2_with fail
      refine K2.out.mono ?_
      rintro e wa ⟨⟨_, h2⟩, hwa⟩
      have h2 := h2 HD.out.2
      subst h2
      subst hwa
      go_wp2
      go_ret
      exact ⟨_, L, rfl, HOW2.out, HD2.out.1, HD2.out.2, hlen, hB⟩
    · have hik : i < 2 * a.length ∨ k < 2 * b.length := by omega
      obtain ⟨x, hx⟩ : ∃ x, endX a i = x := ⟨_, rfl⟩
      obtain ⟨y, hy⟩ : ∃ y, endX b k = y := ⟨_, rfl⟩
      obtain ⟨at', hat⟩ : ∃ z, min x y = z := ⟨_, rfl⟩
      obtain ⟨i', hi'⟩ : ∃ i', (x = at' → i' = i + 1) ∧ (x ≠ at' → i' = i) := by
        by_cases e : x = at'
        · exact ⟨i + 1, fun _ => rfl, fun hh => absurd e hh⟩
        · exact ⟨i, fun hh => absurd hh e, fun _ => rfl⟩
      obtain ⟨k', hk'⟩ : ∃ k', (y = at' → k' = k + 1) ∧ (y ≠ at' → k' = k) := by
        by_cases e : y = at'
        · exact ⟨k + 1, fun _ => rfl, fun hh => absurd e hh⟩
        · exact ⟨k, fun hh => absurd hh e, fun _ => rfl⟩
      obtain ⟨oa, hoa⟩ : ∃ oa, decide (i' % 2 = 1) = oa := ⟨_, rfl⟩
      obtain ⟨ob, hob⟩ : ∃ ob, decide (k' % 2 = 1) = ob := ⟨_, rfl⟩
      obtain ⟨r, hr⟩ : ∃ r, ruleB 2 oa ob = r := ⟨_, rfl⟩
      obtain ⟨na, hna⟩ : ∃ na, decide (i % 2 = 1) = na := ⟨_, rfl⟩
      obtain ⟨nb, hnb⟩ : ∃ nb, decide (k % 2 = 1) = nb := ⟨_, rfl⟩
      have hnow : ruleB 2 na nb = ins := by rw [← hna, ← hnb]; exact HS.out.now.symm
      obtain ⟨g1, g2, g3, g4, g5, g6⟩ := HS.out.go HC.out.1 HC.out.2 HBD.out.1 HBD.out.2 hik hx hy hat hi' hk' (r := r) (by rw [hoa, hob]; exact hr)
      have HG := Lib.hid g1
      have K3 := HRU.out oa ob wr
      rw [hr] at K3
      have K3 := Lib.hid K3
      have K4 := HRU.out na nb wr
      rw [hnow] at K4
      have K4 := Lib.hid K4
      have o1 : ((i' : Int) % 2 == 1) = oa := by rw [← hoa, Bool.eq_iff_iff]; simp; omega
      have o2 : ((k' : Int) % 2 == 1) = ob := by rw [← hob, Bool.eq_iff_iff]; simp; omega
      have o3 : ((i : Int) % 2 == 1) = na := by rw [← hna, Bool.eq_iff_iff]; simp; omega
      have o4 : ((k : Int) % 2 == 1) = nb := by rw [← hnb, Bool.eq_iff_iff]; simp; omega
      have XI : Hid (i = 2 * a.length → x = 8796093022208) := fun he => by rw [← hx]; unfold endX; rw [if_pos he]
      have YI : Hid (k = 2 * b.length → y = 8796093022208) := fun he => by rw [← hy]; unfold endX; rw [if_pos he]
      have HII := Lib.hid hi'
      have HKK := Lib.hid hk'
      have HAT := Lib.hid hat
      rw [hx] at K1
      rw [hy] at K2
      clear hr hoa hob hna hnb hnow g1 hx hy hdone hi' hk' hat
      have s1 : IntKind.i64.wrap ((i : Int) + 1) = (i : Int) + 1 := by rw [IntKind.wrap_i64]; omega
      have s2 : IntKind.i64.wrap ((k : Int) + 1) = (k : Int) + 1 := by rw [IntKind.wrap_i64]; omega
      by_cases hc : i < 2 * a.length ∧ k < 2 * b.length
      · have HCN := Lib.hid hc
        clear hc hik
        go_wp2_with fail
        refine K1.out.mono ?_
        rintro e wa ⟨⟨h1, h1'⟩, hwa⟩
        have h1 := h1 HCN.out.1
        subst h1
        subst hwa
        clear h1'
        go_wp2_with fail
        refine K2.out.mono ?_
        rintro e wa ⟨⟨h1, h1'⟩, hwa⟩
        have h1 := h1 HCN.out.2
        subst h1
        subst hwa
        clear h1'
        go_upto_if 49 with fail
        go_cut [15] from 18 to 106 (fun u wx => u = .int .i64 at' ∧ wx = wr)
        case first =>
          go_wp2_with fail
          all_goals go_meet
          all_goals
            have hh := HAT.out
            first
              | exact ⟨by rw [show x = at' by omega], rfl⟩
              | exact ⟨by rw [show y = at' by omega], rfl⟩
        case rest =>
        obtain ⟨rfl, hwc⟩ := hcut
        subst hwc
        go_wp2_with fail
        refine K4.out.mono ?_
        rintro e wa ⟨rfl, hwa⟩
        subst hwa
        go_upto_if 64 with fail
        go_cut [8] from 18 to 106 (fun u wx => u = .int .i64 i' ∧ wx = wc)
        case first =>
          by_cases e : x = at'
          · have t2 : (x == at') = true := by simpa using e
            have hh := Lib.hid (HII.out.1 e)
            clear e
            go_wp2_with fail
            go_meet
            case rel => exact ⟨by rw [hh.out]; go_num, rfl⟩
          · have t2 : (x == at') = false := by simpa using e
            have hh := Lib.hid (HII.out.2 e)
            clear e
            go_wp2_with fail
            go_meet
            case rel => exact ⟨by rw [hh.out], rfl⟩
        case rest =>
        obtain ⟨rfl, hwc⟩ := hcut
        subst hwc
        go_upto_if 72 with fail
        go_cut [9] from 18 to 106 (fun u wx => u = .int .i64 k' ∧ wx = wc)
        case first =>
          by_cases e : y = at'
          · have t2 : (y == at') = true := by simpa using e
            have hh := Lib.hid (HKK.out.1 e)
            clear e
            go_wp2_with fail
            go_meet
            case rel => exact ⟨by rw [hh.out]; go_num, rfl⟩
          · have t2 : (y == at') = false := by simpa using e
            have hh := Lib.hid (HKK.out.2 e)
            clear e
            go_wp2_with fail
            go_meet
            case rel => exact ⟨by rw [hh.out], rfl⟩
        case rest =>
        obtain ⟨rfl, hwc⟩ := hcut
        subst hwc
        go_wp2_with fail
        refine K3.out.mono ?_
        rintro e wa ⟨rfl, hwa⟩
        subst hwa
        have hgl := HG.out.len
        cases r with
        | true =>
          cases ins with
          | true =>
            have hl2 : 2 * L.length ≤ i' + k' := by simp at hgl; omega
            clear hgl
            go_wp2_with fail
            go_roundw
            case rel => exact ⟨at', i', k', true, fr, L, rfl, rfl, HOW.out, by unfold Hid; simpa using HG.out, g2, g3, hl2, hf1, hf2, hB⟩
            case measure => simp [intOf]; omega
          | false =>
            have hl2 : 2 * L.length ≤ i' + k' := by simp at hgl; omega
            have HOW2 : Hid (OwnS wc w.heap.size (.slice av (opnL false fr L).length nv) L) := HOW.out
            have hol : (opnL false fr L).length = L.length := rfl
            rw [hol] at HOW2 ⊢
            clear hgl HOW
            go_wp2_with (at_builtin; refine wpList_app_span rfl (.tmp 89) (.tmp 92) rfl rfl HOW2.out hB rfl rfl (by omega) ?_; intro v1 w9 o1 b1 k1 z1; clear k1)
            go_roundw
            case rel => exact ⟨at', i', k', true, at', L, rfl, rfl, o1, by unfold Hid; simpa using HG.out, g2, g3, hl2, g5, g6, b1⟩
            case measure => simp [intOf]; omega
        | false =>
          cases ins with
          | true =>
            have hl2 : 2 * (L.length + 1) ≤ i' + k' := by simp at hgl; omega
            have ho5 : OwnS wc w.heap.size (.slice av (opnL true fr L).length nv) (L ++ [(fr, 0)]) := HOW.out
            have hol : (opnL true fr L).length = L.length + 1 := by simp [opnL]
            rw [hol] at ho5 ⊢
            obtain ⟨a8, c8, e8, hf8⟩ := ho5.form
            injection e8 with e81 e82 e83
            subst e81; subst e83
            obtain ⟨g8, rfl, _, _, cl⟩ := hf8 L.length (by simp)
            have HF8 := ho5.frozen (L.length * 2 + 1)
            have HST := Lib.hid (ho5.setLast at')
            simp only [List.getD_eq_getElem?_getD, List.getElem?_concat_length, Option.getD_some] at cl
            have HBE : Hid (Below w.heap.size w (wc.setCell ⟨g8, L.length * 2 + 1, none⟩ (.int .i64 at'))) := hB.grown HST.out.2 hB.size (fun x hx => by cases hx; exact (ho5.lt _ rfl).1)
            obtain ⟨m, hm⟩ : ∃ m, L.length = m := ⟨_, rfl⟩
            have HKm := Lib.hid hm
            have hl3 : 2 * (m + 1) ≤ i' + k' := by omega
            rw [hm] at cl HF8 HST HBE ⊢
            have hm0 : m < 400000000000 := by omega
            clear hm hl2 hL hol
            clear hgl HOW hf8 ho5
            go_wp2_with fail
            go_roundw
            case rel => exact ⟨at', i', k', false, at', L ++ [(fr, at')], rfl, rfl, HST.out.1, by unfold Hid; simpa using HG.out, g2, g3, by simp only [List.length_append, List.length_cons, List.length_nil]; rw [HKm.out]; omega, g5, g6, HBE.out⟩
            case measure => simp [intOf]; omega
          | false =>
            have hl2 : 2 * L.length ≤ i' + k' := by simp at hgl; omega
            clear hgl
            go_wp2_with fail
            go_roundw
            case rel => exact ⟨at', i', k', false, fr, L, rfl, rfl, HOW.out, by unfold Hid; simpa using HG.out, g2, g3, hl2, hf1, hf2, hB⟩
            case measure => simp [intOf]; omega
      by_cases hc : i < 2 * a.length ∧ k = 2 * b.length
      · have HCN := Lib.hid hc
        clear hc hik
        go_wp2_with fail
        refine K1.out.mono ?_
        rintro e wa ⟨⟨h1, h1'⟩, hwa⟩
        have h1 := h1 HCN.out.1
        subst h1
        subst hwa
        clear h1'
        go_wp2_with fail
        refine K2.out.mono ?_
        rintro e wa ⟨⟨h1, h1'⟩, hwa⟩
        have h1 := h1' HCN.out.2
        subst h1
        subst hwa
        clear h1'
        go_upto_if 49 with fail
        go_cut [15] from 18 to 106 (fun u wx => u = .int .i64 at' ∧ wx = wr)
        case first =>
          have hh := Lib.hid (show x = at' by have := HAT.out; have := YI.out HCN.out.2; omega)
          go_wp2_with fail
          go_meet
          case rel => exact ⟨by rw [hh.out], rfl⟩
        case rest =>
        obtain ⟨rfl, hwc⟩ := hcut
        subst hwc
        go_wp2_with fail
        refine K4.out.mono ?_
        rintro e wa ⟨rfl, hwa⟩
        subst hwa
        go_upto_if 64 with fail
        go_cut [8] from 18 to 106 (fun u wx => u = .int .i64 i' ∧ wx = wc)
        case first =>
          by_cases e : x = at'
          · have t2 : (x == at') = true := by simpa using e
            have hh := Lib.hid (HII.out.1 e)
            clear e
            go_wp2_with fail
            go_meet
            case rel => exact ⟨by rw [hh.out]; go_num, rfl⟩
          · have t2 : (x == at') = false := by simpa using e
            have hh := Lib.hid (HII.out.2 e)
            clear e
            go_wp2_with fail
            go_meet
            case rel => exact ⟨by rw [hh.out], rfl⟩
        case rest =>
        obtain ⟨rfl, hwc⟩ := hcut
        subst hwc
        go_upto_if 72 with fail
        go_cut [9] from 18 to 106 (fun u wx => u = .int .i64 k' ∧ wx = wc)
        case first =>
          have hh := Lib.hid (HKK.out.2 (by have := YI.out HCN.out.2; omega))
          go_wp2_with fail
          go_meet
          case rel => exact ⟨by rw [hh.out], rfl⟩
        case rest =>
        obtain ⟨rfl, hwc⟩ := hcut
        subst hwc
        go_wp2_with fail
        refine K3.out.mono ?_
        rintro e wa ⟨rfl, hwa⟩
        subst hwa
        have hgl := HG.out.len
        cases r with
        | true =>
          cases ins with
          | true =>
            have hl2 : 2 * L.length ≤ i' + k' := by simp at hgl; omega
            clear hgl
            go_wp2_with fail
            go_roundw
            case rel => exact ⟨at', i', k', true, fr, L, rfl, rfl, HOW.out, by unfold Hid; simpa using HG.out, g2, g3, hl2, hf1, hf2, hB⟩
            case measure => simp [intOf]; omega
          | false =>
            have hl2 : 2 * L.length ≤ i' + k' := by simp at hgl; omega
            have HOW2 : Hid (OwnS wc w.heap.size (.slice av (opnL false fr L).length nv) L) := HOW.out
            have hol : (opnL false fr L).length = L.length := rfl
            rw [hol] at HOW2 ⊢
            clear hgl HOW
            go_wp2_with (at_builtin; refine wpList_app_span rfl (.tmp 89) (.tmp 92) rfl rfl HOW2.out hB rfl rfl (by omega) ?_; intro v1 w9 o1 b1 k1 z1; clear k1)
            go_roundw
            case rel => exact ⟨at', i', k', true, at', L, rfl, rfl, o1, by unfold Hid; simpa using HG.out, g2, g3, hl2, g5, g6, b1⟩
            case measure => simp [intOf]; omega
        | false =>
          cases ins with
          | true =>
            have hl2 : 2 * (L.length + 1) ≤ i' + k' := by simp at hgl; omega
            have ho5 : OwnS wc w.heap.size (.slice av (opnL true fr L).length nv) (L ++ [(fr, 0)]) := HOW.out
            have hol : (opnL true fr L).length = L.length + 1 := by simp [opnL]
            rw [hol] at ho5 ⊢
            obtain ⟨a8, c8, e8, hf8⟩ := ho5.form
            injection e8 with e81 e82 e83
            subst e81; subst e83
            obtain ⟨g8, rfl, _, _, cl⟩ := hf8 L.length (by simp)
            have HF8 := ho5.frozen (L.length * 2 + 1)
            have HST := Lib.hid (ho5.setLast at')
            simp only [List.getD_eq_getElem?_getD, List.getElem?_concat_length, Option.getD_some] at cl
            have HBE : Hid (Below w.heap.size w (wc.setCell ⟨g8, L.length * 2 + 1, none⟩ (.int .i64 at'))) := hB.grown HST.out.2 hB.size (fun x hx => by cases hx; exact (ho5.lt _ rfl).1)
            obtain ⟨m, hm⟩ : ∃ m, L.length = m := ⟨_, rfl⟩
            have HKm := Lib.hid hm
            have hl3 : 2 * (m + 1) ≤ i' + k' := by omega
            rw [hm] at cl HF8 HST HBE ⊢
            have hm0 : m < 400000000000 := by omega
            clear hm hl2 hL hol
            clear hgl HOW hf8 ho5
            go_wp2_with fail
            go_roundw
            case rel => exact ⟨at', i', k', false, at', L ++ [(fr, at')], rfl, rfl, HST.out.1, by unfold Hid; simpa using HG.out, g2, g3, by simp only [List.length_append, List.length_cons, List.length_nil]; rw [HKm.out]; omega, g5, g6, HBE.out⟩
            case measure => simp [intOf]; omega
          | false =>
            have hl2 : 2 * L.length ≤ i' + k' := by simp at hgl; omega
            clear hgl
            go_wp2_with fail
            go_roundw
            case rel => exact ⟨at', i', k', false, fr, L, rfl, rfl, HOW.out, by unfold Hid; simpa using HG.out, g2, g3, hl2, hf1, hf2, hB⟩
            case measure => simp [intOf]; omega
      by_cases hc : i = 2 * a.length ∧ k < 2 * b.length
      · have HCN := Lib.hid hc
        clear hc hik
        go_wp2_with fail
        refine K1.out.mono ?_
        rintro e wa ⟨⟨h1, h1'⟩, hwa⟩
        have h1 := h1' HCN.out.1
        subst h1
        subst hwa
        clear h1'
        go_wp2_with fail
        refine K2.out.mono ?_
        rintro e wa ⟨⟨h1, h1'⟩, hwa⟩
        have h1 := h1 HCN.out.2
        subst h1
        subst hwa
        clear h1'
        go_upto_if 49 with fail
        go_cut [15] from 18 to 106 (fun u wx => u = .int .i64 at' ∧ wx = wr)
        case first =>
          have hh := Lib.hid (show y = at' by have := HAT.out; have := XI.out HCN.out.1; omega)
          go_wp2_with fail
          go_meet
          case rel => exact ⟨by rw [hh.out], rfl⟩
        case rest =>
        obtain ⟨rfl, hwc⟩ := hcut
        subst hwc
        go_wp2_with fail
        refine K4.out.mono ?_
        rintro e wa ⟨rfl, hwa⟩
        subst hwa
        go_upto_if 64 with fail
        go_cut [8] from 18 to 106 (fun u wx => u = .int .i64 i' ∧ wx = wc)
        case first =>
          have hh := Lib.hid (HII.out.2 (by have := XI.out HCN.out.1; omega))
          go_wp2_with fail
          go_meet
          case rel => exact ⟨by rw [hh.out], rfl⟩
        case rest =>
        obtain ⟨rfl, hwc⟩ := hcut
        subst hwc
        go_upto_if 72 with fail
        go_cut [9] from 18 to 106 (fun u wx => u = .int .i64 k' ∧ wx = wc)
        case first =>
          by_cases e : y = at'
          · have t2 : (y == at') = true := by simpa using e
            have hh := Lib.hid (HKK.out.1 e)
            clear e
            go_wp2_with fail
            go_meet
            case rel => exact ⟨by rw [hh.out]; go_num, rfl⟩
          · have t2 : (y == at') = false := by simpa using e
            have hh := Lib.hid (HKK.out.2 e)
            clear e
            go_wp2_with fail
            go_meet
            case rel => exact ⟨by rw [hh.out], rfl⟩
        case rest =>
        obtain ⟨rfl, hwc⟩ := hcut
        subst hwc
        go_wp2_with fail
        refine K3.out.mono ?_
        rintro e wa ⟨rfl, hwa⟩
        subst hwa
        have hgl := HG.out.len
        cases r with
        | true =>
          cases ins with
          | true =>
            have hl2 : 2 * L.length ≤ i' + k' := by simp at hgl; omega
            clear hgl
            go_wp2_with fail
            go_roundw
            case rel => exact ⟨at', i', k', true, fr, L, rfl, rfl, HOW.out, by unfold Hid; simpa using HG.out, g2, g3, hl2, hf1, hf2, hB⟩
            case measure => simp [intOf]; omega
          | false =>
            have hl2 : 2 * L.length ≤ i' + k' := by simp at hgl; omega
            have HOW2 : Hid (OwnS wc w.heap.size (.slice av (opnL false fr L).length nv) L) := HOW.out
            have hol : (opnL false fr L).length = L.length := rfl
            rw [hol] at HOW2 ⊢
            clear hgl HOW
            go_wp2_with (at_builtin; refine wpList_app_span rfl (.tmp 89) (.tmp 92) rfl rfl HOW2.out hB rfl rfl (by omega) ?_; intro v1 w9 o1 b1 k1 z1; clear k1)
            go_roundw
            case rel => exact ⟨at', i', k', true, at', L, rfl, rfl, o1, by unfold Hid; simpa using HG.out, g2, g3, hl2, g5, g6, b1⟩
            case measure => simp [intOf]; omega
        | false =>
          cases ins with
          | true =>
            have hl2 : 2 * (L.length + 1) ≤ i' + k' := by simp at hgl; omega
            have ho5 : OwnS wc w.heap.size (.slice av (opnL true fr L).length nv) (L ++ [(fr, 0)]) := HOW.out
            have hol : (opnL true fr L).length = L.length + 1 := by simp [opnL]
            rw [hol] at ho5 ⊢
            obtain ⟨a8, c8, e8, hf8⟩ := ho5.form
            injection e8 with e81 e82 e83
            subst e81; subst e83
            obtain ⟨g8, rfl, _, _, cl⟩ := hf8 L.length (by simp)
            have HF8 := ho5.frozen (L.length * 2 + 1)
            have HST := Lib.hid (ho5.setLast at')
            simp only [List.getD_eq_getElem?_getD, List.getElem?_concat_length, Option.getD_some] at cl
            have HBE : Hid (Below w.heap.size w (wc.setCell ⟨g8, L.length * 2 + 1, none⟩ (.int .i64 at'))) := hB.grown HST.out.2 hB.size (fun x hx => by cases hx; exact (ho5.lt _ rfl).1)
            obtain ⟨m, hm⟩ : ∃ m, L.length = m := ⟨_, rfl⟩
            have HKm := Lib.hid hm
            have hl3 : 2 * (m + 1) ≤ i' + k' := by omega
            rw [hm] at cl HF8 HST HBE ⊢
            have hm0 : m < 400000000000 := by omega
            clear hm hl2 hL hol
            clear hgl HOW hf8 ho5
            go_wp2_with fail
            go_roundw
            case rel => exact ⟨at', i', k', false, at', L ++ [(fr, at')], rfl, rfl, HST.out.1, by unfold Hid; simpa using HG.out, g2, g3, by simp only [List.length_append, List.length_cons, List.length_nil]; rw [HKm.out]; omega, g5, g6, HBE.out⟩
            case measure => simp [intOf]; omega
          | false =>
            have hl2 : 2 * L.length ≤ i' + k' := by simp at hgl; omega
            clear hgl
            go_wp2_with fail
            go_roundw
            case rel => exact ⟨at', i', k', false, fr, L, rfl, rfl, HOW.out, by unfold Hid; simpa using HG.out, g2, g3, hl2, hf1, hf2, hB⟩
            case measure => simp [intOf]; omega
      omega
end Go.Proofs.YtnjpceocnldlfaaGreat
namespace Go.Proofs.YtnjpceocnldlfaaGreat
open Go.RowKit Wk

set_option maxRecDepth 100000 in
set_option maxHeartbeats 4000000 in
theorem pnot_any (P : Int) (v : Value) (l : List Sp) (w : World) (h1 : RdS w v l) :
    Calls Tryz.prog 99 #[.agg #[.int .i64 P, v]] w (PrPost (perNot (P, l)) w) := by
  have HV1 := Lib.hid (fun W h => pvalid_any P v l W h)
  have HCB := Lib.hid (fun va vb a b W h1 h2 c1 c2 b1 b2 l1 l2 => pcomb_Not va vb a b W h1 h2 c1 c2 b1 b2 l1 l2)
  have hr1 := h1
  obtain ⟨a1, d1, rfl⟩ := h1.form
  obtain ⟨W, hWe⟩ : ∃ W, (w.alloc (.cells #[.int .i64 P, .slice a1 l.length d1] 24)).alloc (.cells #[.int .i64 0, .slice none 0 0] 24) = W := ⟨_, rfl⟩
  have hW : Below w.heap.size w W := by rw [← hWe]; exact ((Below.refl _ _).alloc (Nat.le_refl _) _).alloc (by simp) _
  have hWs : W.heap.size = w.heap.size + 1 + 1 := by rw [← hWe]; simp
  have c0 : W.cell? ⟨w.heap.size, 0, none⟩ = some (.int .i64 P) := by rw [← hWe]; simp [go_sem]
  have c1 : W.cell? ⟨w.heap.size, 1, none⟩ = some (.slice a1 l.length d1) := by rw [← hWe]; simp [go_sem]
  have hBX : Box2 W (w.heap.size + 1) (.int .i64 0) (.slice none 0 0) := by
    rw [← hWe]
    refine ⟨⟨?_, ?_⟩, ?_, ?_⟩ <;> simp [go_sem]
  have HE := Lib.hid hWe
  have HR1 := Lib.hid (keepRd hW hr1)
  have HWS := Lib.hid hWs
  clear hWe h1 hr1 hWs
  cases g1 : pvB P l with
  | false =>
    have hM : perNot (P, l) = ((0, []), 1) := by unfold perNot; simp only [g1]; rw [if_pos (by simp)]
    have HM := Lib.hid hM
    rw [g1] at HV1
    clear g1 hM
    go_enter Tryz.func99, Tryz.ntmps99
    go_wp2_with fail
    rw [HE.out]
    go_wp2_with fail
    refine (HV1.out _ HR1.out).mono ?_
    rintro e w1 ⟨rfl, hb1⟩
    have hBn := keepBelow hW hb1
    obtain ⟨⟨e0, e1⟩, f0, f1⟩ := hBX.below hb1
    have HB := Lib.hid (hBX.below hb1)
    clear hb1 hBX c0 c1
    go_wp2
    change bodyPost _ _ _ _ _ (put2 w1 (w.heap.size + 1) (.int .i64 0) (.slice none 0 0))
    obtain ⟨r0, r1⟩ := HB.out.put (.int .i64 0) (.slice none 0 0)
    have hBZ := put2_below (.int .i64 0) (.slice none 0 0) hBn (b := w.heap.size + 1) (by omega)
    generalize put2 w1 (w.heap.size + 1) (.int .i64 0) (.slice none 0 0) = Z at *
    refine bodyPost_ret (v := .tuple #[.agg #[.int .i64 0, .slice none 0 0], .int .i64 1]) (by simp [results, Tryz.results99, go_sem, r0, r1]) rfl ?_
    show PrPost _ w _ _
    rw [HM.out]
    exact ⟨_, rfl, OwnS.nil _ _, hBZ⟩
  | true =>
  rw [g1] at HV1
  obtain ⟨hrv1, hP1, hP2, _⟩ := rvB_of_pvB g1
  have hl1 := (canon_of_rvB hrv1).2.2
  have HG1 := Lib.hid g1
  have HCN : Hid (Canon l ∧ Bnd l ∧ Canon [(0, P)] ∧ Bnd [(0, P)]) := by
    refine ⟨(canon_of_rvB hrv1).1, (canon_of_rvB hrv1).2.1, by simp [Canon]; omega, fun s hs => ?_⟩
    simp only [List.mem_singleton] at hs
    subst hs
    simp only
    omega
  clear g1 hrv1
  go_enter Tryz.func99, Tryz.ntmps99
  go_wp2_with fail
  rw [HE.out]
  go_wp2_with fail
  refine (HV1.out _ HR1.out).mono ?_
  rintro e w1 ⟨rfl, hb1⟩
  have hBn := keepBelow hW hb1
  have HRn := Lib.hid (keepRd hb1 HR1.out)
  have j0 := keepCell hb1 c0
  have j1 := keepCell hb1 c1
  have HBX := Lib.hid (hBX.below hb1)
  clear hb1 hBX c0 c1
  go_wp2_with fail
  have hdw := (Below.refl w1.heap.size w1).alloc (Nat.le_refl _) (.cells #[.int .i64 0, .int .i64 P] 40)
  have k0 := keepCell hdw j0
  have k1 := keepCell hdw j1
  have hdd := (Below.refl (w1.alloc (.cells #[.int .i64 0, .int .i64 P] 40)).heap.size (w1.alloc (.cells #[.int .i64 0, .int .i64 P] 40))).drew
  have RN := Lib.hid (keepRd hdw.drew HRn.out)
  have ON := Lib.hid (keepRd hdd ((own_one w1 (B := 0) (Nat.zero_le _) 0 P).rd (by simp)))
  have HSZ : Hid (w.heap.size + 1 < w1.heap.size) := World.block_lt_of_cell? w1 ⟨w.heap.size + 1, 0, none⟩ HBX.out.1.1
  have HC : Hid (∀ X, Below w1.heap.size w1 X → X.cell? ⟨w.heap.size, 0, none⟩ = some (.int .i64 P) ∧ X.cell? ⟨w.heap.size, 1, none⟩ = some (.slice a1 l.length d1)) := fun X hX => ⟨keepCell hX j0, keepCell hX j1⟩
  have hdr := hdw.drew
  go_region_with (first
    | (go_at_call 151; refine (HCB.out _ _ _ _ _ ON.out RN.out HCN.out.2.2.1 HCN.out.1 HCN.out.2.2.2 HCN.out.2.1 (by simp) (by omega)).mono ?_; rintro e' wC ⟨vC, L, rfl, oC, cC, hC, lC, bC⟩; have hfC : Below w1.heap.size w1 wC := keepBelow hdr bC; have HLM := Lib.hid (perNot_lim HG1.out cC hC); have HLN : Hid (L.length ≤ 4096) := (by unfold Hid; simp at lC; omega); have RC := Lib.hid (oC.rd (by have := HLN.out; omega)); have CC := Lib.hid cC; obtain ⟨cC0, cC1⟩ := HC.out _ hfC; clear bC oC cC hC lC)
    | (go_at_call 145; refine (limited_any P _ L _ RC.out ⟨CC.out, Bnd_ins CC.out HLM.out.2 hP2, HLN.out⟩ hP1 hP2 HLM.out.2).mono ?_; rintro e' wD ⟨vD, rfl, oD, bD⟩; obtain ⟨pD, nD, rfl, _⟩ := oD.form; have hfD : Below w1.heap.size w1 wD := keepBelow hfC bD; obtain ⟨⟨z0, z1⟩, f0, f1⟩ := HBX.out.below hfD; have OD := Lib.hid oD; have SC := Lib.hid hfC.size; clear bD oD))
  all_goals go_wp2
  all_goals
    change bodyPost _ _ _ _ _ (put2 wD (w.heap.size + 1) (.int .i64 (limM P L).1.1) (.slice pD (limM P L).1.2.length nD))
    obtain ⟨r0, r1⟩ := (HBX.out.below hfD).put (.int .i64 (limM P L).1.1) (.slice pD (limM P L).1.2.length nD)
    have hBZ := put2_below (.int .i64 (limM P L).1.1) (.slice pD (limM P L).1.2.length nD) (keepBelow hBn hfD) (b := w.heap.size + 1) (by omega)
    have hOZ := put2_own (.int .i64 (limM P L).1.1) (.slice pD (limM P L).1.2.length nD) OD.out (b := w.heap.size + 1) (by have := SC.out; have := HSZ.out; omega)
    generalize put2 wD (w.heap.size + 1) (.int .i64 (limM P L).1.1) (.slice pD (limM P L).1.2.length nD) = Z at *
    refine bodyPost_ret (v := .tuple #[.agg #[.int .i64 (limM P L).1.1, .slice pD (limM P L).1.2.length nD], .int .i64 (limM P L).2]) (by simp [results, Tryz.results99, go_sem, r0, r1]) rfl ?_
    show PrPost _ w _ _
    rw [HLM.out.1]
    exact ⟨_, rfl, hOZ.mono (by have := SC.out; have := HSZ.out; omega), hBZ⟩
end Go.Proofs.YtnjpceocnldlfaaGreat
