import Derived.Test.YtmfdnbfjdhlonaaGreatDoorWkOqD
import Derived.Test.YtmfdnbfjdhlonaaGreatDoorWkC13
import Derived.Test.YtmfdnbfjdhlonaaGreatDoorWkRfX
/- The reference's Of (periodic). -/
namespace Go.Proofs.YtmfdnbfjdhlonaaGreatDoor
open Go.RowKit Wk

theorem canon_cnt {P : Int} : ∀ {l : List Sp} {a : Int}, Canon l → (∀ s ∈ l, a ≤ s.1 ∧ s.2 ≤ P) → a ≤ P → (l.length : Int) ≤ P - a
 | [], a, _, _, h => by simp; omega
 | s :: r, a, hc, hs, h => by
  obtain ⟨h1, h2, h3⟩ := hc
  have h4 := hs s (List.mem_cons_self ..)
  have := canon_cnt (l := r) (a := a + 1) h3 (fun t ht => ⟨by have := h2 t ht; omega, (hs t (List.mem_cons_of_mem _ ht)).2⟩) (by omega)
  simp only [List.length_cons]
  omega
def RfInv (P : Int) (T A : List Sp) : Prop := Canon A ∧ ∀ x, inL A x = ((decide (0 ≤ x) && decide (x < P)) && onP P T x)
theorem RfInv.ins {P : Int} {T A : List Sp} (h : RfInv P T A) : inside P A := foldP_in (L := T) h
theorem RfInv.cnt {P : Int} {T A : List Sp} (h : RfInv P T A) (hP : 0 ≤ P) : (A.length : Int) ≤ P := by
 have := canon_cnt (a := 0) h.1 (fun s hs => h.ins s hs) hP
 omega
theorem rf_step {P x y : Int} {T A B C : List Sp} (h : RfInv P T A) (hB : ∀ z, inL B z = ((decide (0 ≤ z) && decide (z < P)) && onP P [(x, y)] z)) (hC : Canon C) (hm : ∀ z, inL C z = ruleB 0 (inL A z) (inL B z)) : RfInv P (T ++ [(x, y)]) C := by
 refine ⟨hC, fun z => ?_⟩
 rw [hm, h.2, hB, onP_app]
 have : ∀ a b c : Bool, ruleB 0 (a && b) (a && c) = (a && (b || c)) := by intro a b c; cases a <;> cases b <;> cases c <;> rfl
 exact this _ _ _
theorem rf_full {P x y : Int} (hP : 1 ≤ P) (h : P ≤ y - x) : ∀ z, inL [(0, P)] z = ((decide (0 ≤ z) && decide (z < P)) && onP P [(x, y)] z) := fun z => by
 have := fo_full (P := P) (y1 := x) (y2 := y) (T := []) (r := []) hP h z
 simpa using this
theorem rf_rot {P x y : Int} {R : List Sp} (hP : 1 ≤ P) (h : RotP [(0, y - x)] P (x % P) R) : ∀ z, inL R z = ((decide (0 ≤ z) && decide (z < P)) && onP P [(x, y)] z) := fun z => by
 by_cases hz : 0 ≤ z ∧ z < P
 ·rw [h.2.2 z hz.1 hz.2, onP_one, decide_eq_true hz.1, decide_eq_true hz.2]
  unfold hasP
  simp only [inL, Bool.or_false, Bool.true_and]
  rw [mod_eq, show (z - x % P) % P = (z - x) % P by rw [show z - x % P = (z - x) + P * (x / P) by have := Int.mul_ediv_add_emod x P; omega, Int.add_mul_emod_self_left]]
  have := Int.emod_nonneg (z - x) (b := P) (by omega)
  rw [decide_eq_true this]
  rfl
 ·have hn : inL R z = false := by
   cases e : inL R z with
   | false => rfl
   | true =>
    obtain ⟨s, hs, hs1, hs2⟩ := inL_mem e
    have := h.2.1 s hs
    exact absurd ⟨by omega, by omega⟩ hz
  rw [hn]
  rcases Int.lt_or_le z 0 with h0 | h0
  ·rw [decide_eq_false (show ¬0 ≤ z by omega)]; rfl
  ·rw [decide_eq_false (show ¬z < P by omega)]; simp
theorem good_one {P d : Int} (h1 : 0 < d) (h2 : d < P) : GoodP (P, [(0, d)]) := ⟨by omega, by simp [Canon]; omega, fun s hs => by simp at hs; subst hs; exact ⟨Int.le_refl _, by simp only; omega⟩⟩

theorem cutM_le (l : List Sp) (b : Int) : (cutM l b).length ≤ l.length := by
 unfold cutM
 rw [List.length_map]
 exact List.length_filter_le _ _
set_option maxRecDepth 100000 in
set_option maxHeartbeats 8000000 in
theorem rof13_any (P : Int) (v : Value) (L : List Sp) (w : World) (h : RdS w v L) (hP1 : 1 ≤ P) (hP2 : P ≤ 12622780800) :
  Calls Tryz.prog 37 #[.int .i64 P, v] w (PrPost (ofPM P L) w) := by
 have HSP := Lib.hid (fun x y W => pspan_any x y W)
 obtain ⟨R, hR⟩ : ∃ R, ofPM P L = R := ⟨_, rfl⟩
 rw [hR]
 have HRR := Lib.hid hR
 obtain ⟨W, hWe⟩ : ∃ W, w.alloc (.cells #[.int .i64 0, .slice none 0 0] 29) = W := ⟨_, rfl⟩
 have hB0 : Below w.heap.size w W := by rw [← hWe]; exact (Below.refl _ w).alloc (Nat.le_refl _) _
 have hBX : Box2 W w.heap.size (.int .i64 0) (.slice none 0 0) := by rw [← hWe]; exact box2_new _ _ _ _
 have HBX := Lib.hid hBX
 have HSZ : Hid (w.heap.size < W.heap.size) := Lib.hid (by rw [← hWe]; simp)
 obtain ⟨pa, pc, rfl, hlb, hc⟩ := keepRd hB0 h
 have HC := Lib.hid hc
 have HB0 := Lib.hid hB0
 have hlb' : (L.length : Int) ≤ 8796093022208 := by omega
 have HE := Lib.hid hWe
 have g1 : decide (P < 1) = false := by simp; omega
 have g2 : decide (12622780800 < P) = false := by simp; omega
 clear hWe h hc hR hBX hB0
 go_enter Tryz.func37, Tryz.ntmps37
 go_wp2_with fail
 rw [HE.out]
 go_wp2_with fail
 go_loopw [6] (fun u6 wr => ∃ k : Nat, u6 = .int .i64 k ∧ k ≤ L.length ∧ Hid (∀ j, j < k → ivB (L.getD j (0, 0)) = true) ∧ Hid (Below W.heap.size W wr)) (fun u6 _ => L.length - (intOf u6).toNat)
 case atStart => exact ⟨0, rfl, Nat.zero_le _, Lib.hid (fun j hj => absurd hj (by omega)), Lib.hid (Below.refl _ _)⟩
 case round =>
  obtain ⟨k, rfl, hk, HZ, HB⟩ := hrel
  by_cases hlt : k < L.length
  ·have hlt' : (k : Int) < L.length := by omega
   obtain ⟨b, o, x, y, rfl, hbw, HXY, d1, d2⟩ := rd_at HC.out HB.out hlt
   obtain ⟨q, hq⟩ : ∃ q, ivB (x, y) = q := ⟨_, rfl⟩
   have HSPk := Lib.hid (HSP.out x y wr)
   rw [hq] at HSPk
   have HQ := Lib.hid hq
   clear hq
   cases q with
   | false =>
    have hR1 : ((0, []), (1 : Int)) = R := by
     rw [← HRR.out]
     unfold ofPM
     have : allV L = false := by
      cases hA : allV L with
      | false => rfl
      | true => have := (allV_iff L).1 hA k hlt; rw [HXY.out, HQ.out] at this; cases this
     rw [this, if_pos rfl]
    subst hR1
    go_wp2_with (refine HSPk.out.mono ?_; rintro e w1 ⟨rfl, hb1⟩; obtain ⟨⟨z0, z1⟩, f0, f1⟩ := HBX.out.below (HB.out.trans (hb1.mono HB.out.size)))
    change bodyPost _ _ _ _ _ (put2 w1 w.heap.size (.int .i64 0) (.slice none 0 0))
    obtain ⟨r0, r1⟩ := Box2.put (W := w1) (b := w.heap.size) ⟨⟨z0, z1⟩, f0, f1⟩ (.int .i64 0) (.slice none 0 0)
    have hBZ := put2_below (.int .i64 0) (.slice none 0 0) (keepBelow HB0.out (keepBelow HB.out hb1)) (b := w.heap.size) (Nat.le_refl _)
    generalize put2 w1 w.heap.size (.int .i64 0) (.slice none 0 0) = Z at *
    (try simp only [Exit.inBlock, Exit.then])
    refine bodyPost_ret (v := .tuple #[.agg #[.int .i64 0, .slice none 0 0], .int .i64 1]) (by simp [results, Tryz.results37, go_sem, r0, r1]) rfl ?_
    exact ⟨_, rfl, OwnS.nil _ _, hBZ⟩
   | true =>
    go_wp2_with (refine HSPk.out.mono ?_; rintro e w1 ⟨rfl, hb1⟩)
    go_roundw
    case rel =>
     refine ⟨k + 1, by go_num, by omega, Lib.hid fun j hj => ?_, Lib.hid (keepBelow HB.out hb1)⟩
     rcases Nat.lt_succ_iff_lt_or_eq.1 hj with h | rfl
     ·exact HZ.out j h
     ·rw [HXY.out]; exact HQ.out
    case measure => simp [intOf]; omega
  ·have HA : Hid (allV L = true) := Lib.hid ((allV_iff L).2 fun i hi => HZ.out i (by omega))
   clear HZ HSP
   by_cases hl : 2000 < L.length
   ·have hl' : (2000 : Int) < L.length := by omega
    have hR1 : ((0, []), (5 : Int)) = R := by
     rw [← HRR.out]
     unfold ofPM
     rw [HA.out, if_neg (by simp), if_pos hl]
    subst hR1
    obtain ⟨⟨z0, z1⟩, f0, f1⟩ := HBX.out.below HB.out
    go_wp2_with fail
    change bodyPost _ _ _ _ _ (put2 wr w.heap.size (.int .i64 0) (.slice none 0 0))
    obtain ⟨r0, r1⟩ := Box2.put (W := wr) (b := w.heap.size) ⟨⟨z0, z1⟩, f0, f1⟩ (.int .i64 0) (.slice none 0 0)
    have hBZ := put2_below (.int .i64 0) (.slice none 0 0) (keepBelow HB0.out HB.out) (b := w.heap.size) (Nat.le_refl _)
    generalize put2 wr w.heap.size (.int .i64 0) (.slice none 0 0) = Z at *
    refine bodyPost_ret (v := .tuple #[.agg #[.int .i64 0, .slice none 0 0], .int .i64 5]) (by simp [results, Tryz.results37, go_sem, r0, r1]) rfl ?_
    exact ⟨_, rfl, OwnS.nil _ _, hBZ⟩
   ·have hl' : ¬(2000 : Int) < L.length := by omega
    have hlen : L.length ≤ 2000 := by omega
    have HLM : Hid (limM P (foldU P L) = R) := Lib.hid (by rw [← HRR.out, ofPM_good HA.out hlen])
    have HBW := Lib.hid HB.out
    clear HRR hl
    go_wp2_with fail
    generalize wr = Wa at *
    go_loopw [7, 8, 9, 10] (fun u7 u8 _ _ wr => ∃ (k : Nat) (A : List Sp), u8 = .int .i64 k ∧ k ≤ L.length ∧ RdS wr u7 A ∧ Hid (RfInv P (L.take k) A) ∧ Hid (Below W.heap.size W wr)) (fun _ u8 _ _ _ => L.length - (intOf u8).toNat)
    case atStart => exact ⟨0, [], rfl, Nat.zero_le _, (OwnS.nil Wa 0).rd (by simp), Lib.hid ⟨trivial, fun x => by simp [inL, onP]⟩, HBW⟩
    case round =>
     obtain ⟨k2, A, rfl, hk2, hA, HIA, HB2⟩ := hrel
     have hAc := HIA.out.cnt (by omega)
     have HAL : Hid (A.length ≤ 20000000000) := Lib.hid (by omega)
     by_cases hlt2 : k2 < L.length
     ·have hlt2' : (k2 : Int) < L.length := by omega
      obtain ⟨b, o, x, y, rfl, hbw, HXY, d1, d2⟩ := rd_at HC.out HB2.out hlt2
      have hxy := allV_bnd HA.out _ (mem_of_getD HXY.out hlt2)
      simp only at hxy
      have HXB := Lib.hid hxy
      have HTK : Hid (L.take (k2 + 1) = L.take k2 ++ [(x, y)]) := Lib.hid (getD_take_succ HXY.out hlt2)
      have s1 : IntKind.i64.wrap (y - x) = y - x := by rw [IntKind.wrap_i64]; omega
      have HAA := Lib.hid hA
      obtain ⟨aa, ac, rfl⟩ := hA.form
      have hba : Below wr.heap.size wr (wr.alloc (.cells #[.int .i64 0, .int .i64 P] 41)) := (Below.refl _ _).alloc (Nat.le_refl _) _
      have HBA := Lib.hid (keepBelow HB2.out hba)
      have e1 := ext_cell (keepCell hba d1)
      have e2 := ext_cell (keepCell hba d2)
      have HRA := Lib.hid (keepRd hba hA)
      have HON := Lib.hid ((own_one wr (B := 0) (Nat.zero_le _) 0 P).rd (by simp))
      have hsa : (wr.alloc (.cells #[.int .i64 0, .int .i64 P] 41)).heap.size = wr.heap.size + 1 := by simp
      have e1' := keepCell hba d1
      have e2' := keepCell hba d2
      clear hA
      by_cases hfull : P ≤ y - x
      ·have hfd : decide (y - x < P) = false := by simp; omega
       have hfd' : ¬ y - x < P := by omega
       have HFU := Lib.hid (rf_full hP1 hfull)
       clear hxy hba hAc hfull
       go_wp2_with fail
       refine wp_region_ext (by kernel_rfl) (by kernel_rfl) ?_
       iterate 13 (go_big_quiet_step (fail))
       refine wpQuiet_nil ?_
       intro w5 hb5
       have HB5 := Lib.hid (keepBelow HBA.out hb5)
       have HLI := Lib.hid (lists_any _ _ A [(0, P)] 0 w5 (keepRd hb5 HRA.out) (keepRd hb5 HON.out) (by have := HAL.out; omega) (by simp) HIA.out.1 (by simp [Canon]; omega))
       clear hb5 e1 e2 e1' e2'
       go_wp2_with fail
       refine HLI.out.mono ?_
       rintro e w6 ⟨v6, C, rfl, o6, c6, m6, -, hb6⟩
       have HST := Lib.hid (rf_step HIA.out HFU.out c6 m6)
       have hcn := HST.out.cnt (by omega)
       have HR6 := Lib.hid (o6.rd (by omega))
       have HB6 := Lib.hid (keepBelow HB5.out hb6)
       clear o6 c6 m6 hb6
       go_wp2_with fail
       go_roundw
       case rel => exact ⟨k2 + 1, C, by go_num, by omega, HR6.out, by rw [HTK.out]; exact HST, HB6⟩
       case measure => simp [intOf]; omega
      ·have hfd : decide (y - x < P) = true := by simp; omega
       have hfd' : y - x < P := by omega
       have HMO := Lib.hid (fun W => rmod_any x P W hP1 (by omega) (by omega) (by omega))
       clear hxy hba hAc hfull
       go_wp2_with fail
       refine wp_region_ext (by kernel_rfl) (by kernel_rfl) ?_
       iterate 13 (go_big_quiet_step (fail))
       refine wpQuiet_nil ?_
       intro w5 hb5
       have HB5 := Lib.hid (keepBelow HBA.out hb5)
       have f1 := keepCell hb5 e1'
       have f2 := keepCell hb5 e2'
       have HR5 := Lib.hid (keepRd hb5 HRA.out)
       clear hb5 e1 e2 e1' e2'
       go_wp2_with fail
       refine (HMO.out _).mono ?_
       rintro e w6 ⟨rfl, hb6⟩
       have HB6 := Lib.hid (keepBelow HB5.out hb6)
       have g6 : Below w6.heap.size w6 w6.drew := (Below.refl _ _).drew
       have k1 := keepCell hb6 f1
       have k2' := keepCell hb6 f2
       have j1 := keepCell g6 k1
       have j2 := keepCell g6 k2'
       have i1 : ∀ O, (w6.drew.alloc O).cell? _ = _ := fun O => keepCell ((Below.refl _ _).alloc (Nat.le_refl _) O) j1
       have i2 : ∀ O, (w6.drew.alloc O).cell? _ = _ := fun O => keepCell ((Below.refl _ _).alloc (Nat.le_refl _) O) j2
       have HR6 := Lib.hid (keepRd hb6 HR5.out)
       have hmn := Int.emod_nonneg x (b := P) (by omega)
       have hml := Int.emod_lt_of_pos x (b := P) (by omega)
       obtain ⟨fm, hfm⟩ : ∃ m, x % P = m := ⟨_, rfl⟩
       rw [hfm] at hmn hml
       have HFM := Lib.hid hfm
       have HMN := Lib.hid (And.intro hmn hml)
       rw [hfm]
       have hbd : Below w6.heap.size w6 (w6.alloc (.cells #[.int .i64 0, .int .i64 (y - x)] 41)).drew := ((Below.refl _ _).alloc (Nat.le_refl _) _).drew
       have HBD := Lib.hid (keepBelow HB6.out hbd)
       have HR7 := Lib.hid (keepRd hbd HR6.out)
       have hxy := HXB.out
       have HROT : Hid (Calls Tryz.prog 76 #[.slice (some ⟨w6.heap.size, 0, none⟩) 1 1, .int .i64 P, .int .i64 fm] (w6.alloc (.cells #[.int .i64 0, .int .i64 (y - x)] 41)).drew (RoPost [(0, y - x)] P fm (w6.alloc (.cells #[.int .i64 0, .int .i64 (y - x)] 41)).drew)) := Lib.hid (rot_any _ [(0, y - x)] P fm _ (keepRd ((Below.refl _ _).drew) ((own_one w6 (B := 0) (Nat.zero_le _) 0 (y - x)).rd (by simp))) (good_one (by omega) hfd') (by simp) hP2 (by omega) (by omega))
       clear hxy
       clear hb6 f1 f2 hmn hml hfm hbd g6
       go_wp2_with fail
       go_region_with (first | (go_at_call 76; refine HROT.out.mono ?_; rintro e w7 ⟨v7, RR, rfl, hr7, hrot, hl7, hb7⟩))
       all_goals (
        have HB8 := Lib.hid (keepBelow HBD.out hb7)
        have HRO := Lib.hid (rf_rot (x := x) (y := y) hP1 (by rw [HFM.out]; exact hrot))
        have HLI := Lib.hid (lists_any _ _ A RR 0 w7 (keepRd hb7 HR7.out) hr7 (by have := HAL.out; omega) (by simp at hl7; omega) HIA.out.1 hrot.1)
        obtain ⟨ra, rc, rfl⟩ := hr7.form
        clear hb7 hrot hl7 hr7 k1 k2' j1 j2 i1 i2
        go_wp2_with fail
        refine HLI.out.mono ?_
        rintro e w8 ⟨v8, C, rfl, o8, c8, m8, -, hb8⟩
        have HST := Lib.hid (rf_step HIA.out HRO.out c8 m8)
        have hcn := HST.out.cnt (by omega)
        have HR8 := Lib.hid (o8.rd (by omega))
        have HB9 := Lib.hid (keepBelow HB8.out hb8)
        clear o8 c8 m8 hb8
        go_wp2_with fail
        go_roundw)
       all_goals first
        | exact ⟨k2 + 1, C, by go_num, by omega, HR8.out, by rw [HTK.out]; exact HST, HB9⟩
        | (simp [intOf]; omega)
     ·have hkl : L.take k2 = L := List.take_of_length_le (by omega)
      rw [hkl] at HIA
      have hal4 : A.length ≤ 4000 := by
       have := foldU_len (P := P) (L := L) hP1 (fun s hs => (allV_bnd HA.out s hs).2.1)
       rw [foldU_eq (P := P) (L := L) (F := A) HIA.out] at this
       omega
      have hF := foldU_eq (P := P) (L := L) (F := A) HIA.out
      have HLE := Lib.hid (rleast_any u7 A P wr hA ⟨hP1, HIA.out.1, HIA.out.ins⟩ HAL.out hP2)
      have HRE : Hid (lm13 (leastM A P) (cutM A (leastM A P)) = R) := Lib.hid (by
       rw [← HLM.out, hF]
       rfl)
      have hcut : (cutM A (leastM A P)).length ≤ A.length := cutM_le A (leastM A P)
      have hal := HAL.out
      obtain ⟨aa, ac, rfl⟩ := hA.form
      clear hF hkl
      go_wp2_with fail
      refine HLE.out.mono ?_
      rintro e w5 ⟨v5, rfl, o5, hb5⟩
      have HB5 := Lib.hid (keepBelow HB2.out hb5)
      have hle5 : wr.heap.size ≤ w5.heap.size := hb5.size
      have hc5 : (cutM A (leastM A P)).length ≤ 100000 := by omega
      have HL13 := Lib.hid (lim13_any (leastM A P) v5 (cutM A (leastM A P)) wr.heap.size w5 o5 hle5 hc5)
      rw [HRE.out] at HL13
      obtain ⟨a5, c5, rfl, _⟩ := o5.form
      have hlt5 : w.heap.size < wr.heap.size := by have := HB2.out.size; have := HSZ.out; omega
      clear o5 hb5 HRE hcut hal hal4
      go_wp2_with fail
      refine HL13.out.mono ?_
      rintro e w7 ⟨⟨v7, rfl, o7⟩, hb7⟩
      obtain ⟨p3, q3, rfl, _⟩ := o7.form
      have HB7 := Lib.hid (keepBelow HB0.out (keepBelow HB5.out hb7))
      obtain ⟨⟨z0, z1⟩, f0, f1⟩ := HBX.out.below (keepBelow HB5.out hb7)
      have HO7 := Lib.hid o7
      clear o7 hb7
      go_wp2_with fail
      change bodyPost _ _ _ _ _ (put2 w7 w.heap.size (.int .i64 R.1.1) (.slice p3 R.1.2.length q3))
      obtain ⟨r0, r1⟩ := Box2.put (W := w7) (b := w.heap.size) ⟨⟨z0, z1⟩, f0, f1⟩ (.int .i64 R.1.1) (.slice p3 R.1.2.length q3)
      have hBZ := put2_below (.int .i64 R.1.1) (.slice p3 R.1.2.length q3) HB7.out (b := w.heap.size) (Nat.le_refl _)
      have hOZ := put2_own (.int .i64 R.1.1) (.slice p3 R.1.2.length q3) HO7.out (b := w.heap.size) hlt5
      generalize put2 w7 w.heap.size (.int .i64 R.1.1) (.slice p3 R.1.2.length q3) = Z at *
      refine bodyPost_ret (v := .tuple #[.agg #[.int .i64 R.1.1, .slice p3 R.1.2.length q3], .int .i64 R.2]) (by simp [results, Tryz.results37, go_sem, r0, r1]) rfl ?_
      exact ⟨_, rfl, hOZ.mono (by omega), hBZ⟩
end Go.Proofs.YtmfdnbfjdhlonaaGreatDoor
