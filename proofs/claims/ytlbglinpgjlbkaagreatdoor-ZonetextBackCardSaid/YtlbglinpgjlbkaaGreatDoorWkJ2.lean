import Derived.Test.YtlbglinpgjlbkaaGreatDoorWkJ1
import Derived.Test.YtlbglinpgjlbkaaGreatDoorWkQj
import Derived.Deep.CutBlock
/- Zone texts: the line of a rule. Printed by gen_j2.py. -/
namespace Go.Proofs.YtlbglinpgjlbkaaGreatDoor
open Go.RowKit Wk

theorem clock_wf {c : Int} (h1 : 1 ≤ c) (h2 : c ≤ 3) : (Lit.int .i64 c).wf = true := by
 obtain rfl | rfl | rfl : c = 1 ∨ c = 2 ∨ c = 3 := by omega
 all_goals decide
theorem itoa_any {n : Int} (h0 : -9223372036854775808 ≤ n) (h1 : n ≤ 9223372036854775807) (W : World) (hT : TabP W) : Calls Tryz.prog 96 #[.int .i64 n] W fun e w' => e = .returned (.string ⟨(Lib.itoa n).toArray⟩) ∧ Below W.heap.size W w' :=
 (Tryz.strconv_Itoa n h0 h1 W hT).mono fun e w' h => ⟨h.1, by
  obtain ⟨-, k, os, rfl⟩ := h
  exact Lib.below_grow _ _ (Nat.le_refl _) k os⟩
set_option maxRecDepth 100000 in
set_option maxHeartbeats 8000000 in
theorem ruleText_any (r : RuT) (hr : ruB r = true) (w : World) (hT : TabP w) :
  Calls Tryz.prog 101 #[ruV r] w fun e w' => e = .returned (.string ⟨(joinT (ruleW r) ++ [10]).toArray⟩) ∧ Below w.heap.size w w' := by
 have hwl := ruleW_len hr
 obtain ⟨p1, p2, p3, p4, p5, p6, p7⟩ := ru_parts hr
 obtain ⟨⟨m1, m2⟩, m3, -, ⟨m4, m5⟩, m6, m7⟩ := mom_parts p5
 have hs := sav_parts p6
 have HT := Lib.hid hT
 obtain ⟨nm, fr, tu, mo, ⟨k, v, d⟩, at_, ck, sv, le⟩ := r
 obtain ⟨NM, rfl⟩ := bs_of nm
 obtain ⟨LE, rfl⟩ := bs_of le
 simp only at p1 p2 p3 p4 p5 p6 p7 m1 m2 m3 m4 m5 m6 m7 hs
 have HIF : Hid (∀ W, Below w.heap.size w W → Calls Tryz.prog 96 #[.int .i64 fr] W fun e w' => e = .returned (.string ⟨(Lib.itoa fr).toArray⟩) ∧ Below W.heap.size W w') := Lib.hid fun W hW => itoa_any (by omega) (by omega) W (HT.out.below hW)
 have HIU : Hid (∀ W, Below w.heap.size w W → Calls Tryz.prog 96 #[.int .i64 tu] W fun e w' => e = .returned (.string ⟨(Lib.itoa tu).toArray⟩) ∧ Below W.heap.size W w') := Lib.hid fun W hW => itoa_any (by omega) (by omega) W (HT.out.below hW)
 have HMO : Hid (∀ W, Calls Tryz.prog 162 #[.int .i64 mo] W fun e w' => e = .returned (.string ⟨(getM monthL mo).toArray⟩) ∧ Below W.heap.size W w') := Lib.hid fun W => monthName_any mo W
 have HON : Hid (∀ W, Below w.heap.size w W → Calls Tryz.prog 30 #[.agg #[.int .i64 k, .int .i64 v, .int .i64 d]] W fun e w' => e = .returned (.string ⟨(onT ⟨k, v, d⟩).toArray⟩) ∧ Below W.heap.size W w') := Lib.hid fun W hW => onText_any ⟨k, v, d⟩ W (HT.out.below hW)
 have HCL : Hid (∀ W, Calls Tryz.prog 163 #[.int .i64 at_, .int .i64 ck] W fun e w' => e = .returned (.string ⟨(clockT at_ ck).toArray⟩) ∧ Below W.heap.size W w') := Lib.hid fun W => clockText_any at_ ck (clock_wf m6 m7) W
 have HSV : Hid (∀ W, Calls Tryz.prog 164 #[.int .i64 sv] W fun e w' => e = .returned (.string ⟨(offsetT sv).toArray⟩) ∧ Below W.heap.size W w') := Lib.hid fun W => offsetText_any sv W
 have HSH : Hid (∀ W, Calls Tryz.prog 165 #[.string LE] W fun e w' => e = .returned (.string ⟨(dashT (bsO LE)).toArray⟩) ∧ Below W.heap.size W w') := Lib.hid fun W => (shown_any LE W).mono fun e w' h => ⟨h.1, by rw [h.2]; exact Below.refl _ _⟩
 obtain ⟨FT, hFT⟩ : ∃ D : ByteArray, ⟨(Lib.itoa fr).toArray⟩ = D := ⟨_, rfl⟩
 have HFT : Hid (bsO FT = Lib.itoa fr) := Lib.hid (by rw [← hFT])
 obtain ⟨UT, hUT⟩ : ∃ D : ByteArray, ⟨(Lib.itoa tu).toArray⟩ = D := ⟨_, rfl⟩
 have HUT : Hid (bsO UT = Lib.itoa tu) := Lib.hid (by rw [← hUT])
 obtain ⟨MT, hMT⟩ : ∃ D : ByteArray, ⟨(getM monthL mo).toArray⟩ = D := ⟨_, rfl⟩
 have HMT : Hid (bsO MT = getM monthL mo) := Lib.hid (by rw [← hMT])
 obtain ⟨DT, hDT⟩ : ∃ D : ByteArray, ⟨(onT ⟨k, v, d⟩).toArray⟩ = D := ⟨_, rfl⟩
 have HDT : Hid (bsO DT = onT ⟨k, v, d⟩) := Lib.hid (by rw [← hDT])
 obtain ⟨KT, hKT⟩ : ∃ D : ByteArray, ⟨(clockT at_ ck).toArray⟩ = D := ⟨_, rfl⟩
 have HKT : Hid (bsO KT = clockT at_ ck) := Lib.hid (by rw [← hKT])
 obtain ⟨VT, hVT⟩ : ∃ D : ByteArray, ⟨(offsetT sv).toArray⟩ = D := ⟨_, rfl⟩
 have HVT : Hid (bsO VT = offsetT sv) := Lib.hid (by rw [← hVT])
 obtain ⟨LT, hLT⟩ : ∃ D : ByteArray, ⟨(dashT (bsO LE)).toArray⟩ = D := ⟨_, rfl⟩
 have HLT : Hid (bsO LT = dashT (bsO LE)) := Lib.hid (by rw [← hLT])
 rw [hFT] at HIF
 rw [hUT] at HIU
 rw [hMT] at HMO
 rw [hDT] at HON
 rw [hKT] at HCL
 rw [hVT] at HSV
 rw [hLT] at HSH
 clear hFT hUT hMT hDT hKT hVT hLT hT
 have HWL := Lib.hid hwl
 have HTO : Hid (∀ TO : ByteArray, bsO TO = (if tu = fr then [111, 110, 108, 121] else if tu = 9999 then [109, 97, 120] else Lib.itoa tu) → ([⟨#[114, 117, 108, 101]⟩, NM, FT, TO, MT, DT, KT, VT, LT] : List ByteArray).map bsO = ruleW ⟨bsO NM, fr, tu, mo, ⟨k, v, d⟩, at_, ck, sv, bsO LE⟩) := Lib.hid fun TO h => by
  simp only [List.map_cons, List.map_nil, HFT.out, h, HMT.out, HDT.out, HKT.out, HVT.out, HLT.out]
  rfl
 obtain ⟨R, hR⟩ : ∃ R : ByteArray, ⟨(joinT (ruleW ⟨bsO NM, fr, tu, mo, ⟨k, v, d⟩, at_, ck, sv, bsO LE⟩) ++ [10]).toArray⟩ = R := ⟨_, rfl⟩
 have HR : Hid (bsO R = joinT (ruleW ⟨bsO NM, fr, tu, mo, ⟨k, v, d⟩, at_, ck, sv, bsO LE⟩) ++ [10]) := Lib.hid (by rw [← hR])
 rw [hR]
 obtain ⟨JT, hJT⟩ : ∃ J : ByteArray, ⟨(joinT (ruleW ⟨bsO NM, fr, tu, mo, ⟨k, v, d⟩, at_, ck, sv, bsO LE⟩)).toArray⟩ = J := ⟨_, rfl⟩
 have HJT : Hid (bsO JT = joinT (ruleW ⟨bsO NM, fr, tu, mo, ⟨k, v, d⟩, at_, ck, sv, bsO LE⟩)) := Lib.hid (by rw [← hJT])
 have hjs : (JT.size : Int) ≤ 1000 := by
  have h := joinT_len hwl
  rw [← HJT.out, bs_len] at h
  have : (ruleW ⟨bsO NM, fr, tu, mo, ⟨k, v, d⟩, at_, ck, sv, bsO LE⟩).length = 9 := rfl
  omega
 have HJ : Hid (∀ TO : ByteArray, bsO TO = (if tu = fr then [111, 110, 108, 121] else if tu = 9999 then [109, 97, 120] else Lib.itoa tu) → ∀ W : World, Calls Tryz.prog 161 #[.slice (some ⟨W.heap.size, 0, none⟩) 9 9, .string ⟨#[32]⟩] (W.alloc (.cells #[.string ⟨#[114, 117, 108, 101]⟩, .string NM, .string FT, .string TO, .string MT, .string DT, .string KT, .string VT, .string LT] 9)) fun e w' => e = .returned (.string JT) ∧ Below (W.alloc (.cells #[.string ⟨#[114, 117, 108, 101]⟩, .string NM, .string FT, .string TO, .string MT, .string DT, .string KT, .string VT, .string LT] 9)).heap.size (W.alloc (.cells #[.string ⟨#[114, 117, 108, 101]⟩, .string NM, .string FT, .string TO, .string MT, .string DT, .string KT, .string VT, .string LT] 9)) w') := Lib.hid fun TO h W => by
  have q := join_any [⟨#[114, 117, 108, 101]⟩, NM, FT, TO, MT, DT, KT, VT, LT] (W.alloc (.cells (([⟨#[114, 117, 108, 101]⟩, NM, FT, TO, MT, DT, KT, VT, LT] : List ByteArray).map Value.string).toArray 9)) (c := 9) (by simp) W.heap.size (row_cells W _) (by simp) (by simp) (fun x hx => by
   have h1 : bsO x ∈ ruleW ⟨bsO NM, fr, tu, mo, ⟨k, v, d⟩, at_, ck, sv, bsO LE⟩ := by
    rw [← HTO.out TO h]
    exact List.mem_map_of_mem hx
   have h2 := HWL.out _ h1
   rw [bs_len] at h2
   omega)
  rw [HTO.out TO h, hJT] at q
  exact q
 clear hJT hR hwl p1 p5 p6 p7 m3 hs HTO
 show Calls _ _ #[.agg #[.string NM, .int .i64 fr, .int .i64 tu, .int .i64 mo, .int .i64 k, .int .i64 v, .int .i64 d, .int .i64 at_, .int .i64 ck, .int .i64 sv, .string LE]] w _
 go_enter Tryz.func101, Tryz.ntmps101
 go_upto_region 1 with fail
 obtain ⟨b1, hb1⟩ : ∃ b, w.heap.size = b := ⟨_, rfl⟩
 obtain ⟨X, hX⟩ : ∃ X, w.alloc (.cells #[.string NM, .int .i64 fr, .int .i64 tu, .int .i64 mo, .int .i64 k, .int .i64 v, .int .i64 d, .int .i64 at_, .int .i64 ck, .int .i64 sv, .string LE] 41) = X := ⟨_, rfl⟩
 have HBX : Hid (Below w.heap.size w X) := Lib.hid (by rw [← hX]; exact (Below.refl _ _).alloc (Nat.le_refl _) _)
 have HX1 : Hid (Blk X b1 #[.string NM, .int .i64 fr, .int .i64 tu, .int .i64 mo, .int .i64 k, .int .i64 v, .int .i64 d, .int .i64 at_, .int .i64 ck, .int .i64 sv, .string LE] 41) := Lib.hid (by rw [← hX, ← hb1]; exact Blk.new _ _ _)
 try rw [hX]
 try rw [hb1]
 clear hX hb1
 have x1 := HX1.out.cell (j := 1) rfl
 have x2 := HX1.out.cell (j := 2) rfl
 go_upto_region 2 with (first | (go_at_call 96; refine (HIU.out _ HBX.out).mono ?_; rintro e w2 ⟨rfl, hb2⟩; obtain ⟨W2, hW2⟩ : ∃ W, w2 = W := ⟨_, rfl⟩; rw [hW2] at hb2 ⊢; clear hW2; have HB2 := Lib.hid hb2; clear hb2) | fail)
 have y1 := keepCell HB2.out x1
 have y2 := keepCell HB2.out x2
 go_upto_block 0 with fail
 go_cut [3] from 9 to 15 (fun u wx => ∃ TO : ByteArray, u = .string TO ∧ Hid (bsO TO = (if tu = fr then [111, 110, 108, 121] else if tu = 9999 then [109, 97, 120] else Lib.itoa tu)) ∧ Hid (Below X.heap.size X wx))
 case first =>
  by_cases e1 : tu = fr
  ·have g1 : (tu == fr) = true := by simpa using e1
   have HQ : Hid (bsO ⟨#[111, 110, 108, 121]⟩ = (if tu = fr then [111, 110, 108, 121] else if tu = 9999 then [109, 97, 120] else Lib.itoa tu)) := Lib.hid (by rw [if_pos e1])
   clear e1
   go_wp2_with fail
   go_meet
   exact ⟨_, rfl, HQ, HB2⟩
  have g1 : (tu == fr) = false := by simpa using e1
  by_cases e2 : tu = 9999
  ·have HQ : Hid (bsO ⟨#[109, 97, 120]⟩ = (if tu = fr then [111, 110, 108, 121] else if tu = 9999 then [109, 97, 120] else Lib.itoa tu)) := Lib.hid (by rw [if_neg e1, if_pos e2])
   have g2 : (tu == 9999) = true := by simpa using e2
   clear e1 e2
   go_wp2_with fail
   go_meet
   exact ⟨_, rfl, HQ, HB2⟩
  have g2 : (tu == 9999) = false := by simpa using e2
  have HQ : Hid (bsO UT = (if tu = fr then [111, 110, 108, 121] else if tu = 9999 then [109, 97, 120] else Lib.itoa tu)) := Lib.hid (by rw [if_neg e1, if_neg e2]; exact HUT.out)
  clear e1 e2
  go_wp2_with fail
  go_meet
  exact ⟨_, rfl, HQ, HB2⟩
 case rest =>
 clear y1 y2 HB2
 obtain ⟨TO, rfl, HTO, HB2⟩ := hcut
 generalize wc = W3 at *
 have HJN := Lib.hid (HJ.out TO HTO.out)
 clear x1 x2 HJ HIU
 have HX3 := Lib.hid (HX1.out.below HB2.out)
 have z0 := ext_cell (HX3.out.cell (j := 0) rfl)
 have z1 := ext_cell (HX3.out.cell (j := 1) rfl)
 have z2 := ext_cell (HX3.out.cell (j := 2) rfl)
 have z3 := ext_cell (HX3.out.cell (j := 3) rfl)
 have z4 := ext_cell (HX3.out.cell (j := 4) rfl)
 have z5 := ext_cell (HX3.out.cell (j := 5) rfl)
 have z6 := ext_cell (HX3.out.cell (j := 6) rfl)
 have z7 := ext_cell (HX3.out.cell (j := 7) rfl)
 have z8 := ext_cell (HX3.out.cell (j := 8) rfl)
 have z9 := ext_cell (HX3.out.cell (j := 9) rfl)
 have z10 := ext_cell (HX3.out.cell (j := 10) rfl)
 have HIF3 : Hid (∀ x : Ext W3, Calls Tryz.prog 96 #[.int .i64 fr] (extOf W3 x) fun e w' => e = .returned (.string FT) ∧ Below (extOf W3 x).heap.size (extOf W3 x) w') := Lib.hid fun x => HIF.out _ (keepBelow HBX.out (keepBelow HB2.out (extOf_below W3 x)))
 have HON3 : Hid (∀ x : Ext W3, Calls Tryz.prog 30 #[.agg #[.int .i64 k, .int .i64 v, .int .i64 d]] (extOf W3 x) fun e w' => e = .returned (.string DT) ∧ Below (extOf W3 x).heap.size (extOf W3 x) w') := Lib.hid fun x => HON.out _ (keepBelow HBX.out (keepBelow HB2.out (extOf_below W3 x)))
 go_upto_region 7 with fail
 refine wp_region_pre 23 (by kernel_rfl) (by kernel_rfl) ?hle (by kernel_rfl) ?_
 case hle => decide
 simp only [List.take_succ_cons, List.take_zero]
 iterate 23 (go_big_quiet_step ((first
  | (go_at_call 96; refine calls_ext (HIF3.out _))
  | (go_at_call 162; refine calls_ext (HMO.out _))
  | (go_at_call 30; refine calls_ext (HON3.out _))
  | (go_at_call 163; refine calls_ext (HCL.out _))
  | (go_at_call 164; refine calls_ext (HSV.out _))
  | (go_at_call 165; refine calls_ext (HSH.out _)))))
 refine wpQuiet_nil ?_
 intro w4 hw4
 have HB4 : Hid (Below W3.heap.size W3 w4) := Lib.hid (by obtain ⟨x, rfl⟩ := hw4; exact extOf_below W3 x)
 clear hw4 z0 z1 z2 z3 z4 z5 z6 z7 z8 z9 z10 HIF3 HON3
 have HB5 := Lib.hid (keepBelow HB2.out HB4.out)
 refine wpAny_of_held (S := fun _ => True) _ _ _ _ ?_
 show wpAnyH _ _ _ _ _ 4 _ _ _
 refine wpAnyH_ready (rs := [23]) (by kernel_rfl) (by simp) ?_
 refine AllReadyH.cons rfl (fun K hK => ?_) AllReadyH.nil
 go_simp
 refine hK.out _ _ ?_ (fun hHeld => ?_)
 ·exact trivial
 clear hK K
 refine wpAnyH_ready (rs := [24]) (by kernel_rfl) (by simp) ?_
 refine AllReadyH.cons rfl (fun K hK => ?_) AllReadyH.nil
 go_simp
 go_at_call 161
 refine (HJN.out _).mono ?_
 rintro e w5 ⟨rfl, hb5⟩
 refine hK.out _ _ ?_ (fun hHeld => ?_)
 ·exact trivial
 clear hK K
 refine wpAnyH_ready (rs := [25]) (by kernel_rfl) (by simp) ?_
 refine AllReadyH.cons rfl (fun K hK => ?_) AllReadyH.nil
 go_simp
 rw [if_neg (by omega)]
 rw [Oper.upon_value]
 refine hK.out _ _ ?_ (fun hHeld => ?_)
 ·exact trivial
 clear hK K
 refine wpAnyH_ready (rs := [26]) (by kernel_rfl) (by simp) ?_
 refine AllReadyH.cons rfl (fun K hK => ?_) AllReadyH.nil
 go_simp
 refine hK.out _ _ ?_ (fun hHeld => ?_)
 ·exact trivial
 clear hK K
 refine wpAnyH_done (by kernel_rfl) ?_ _
 go_wp2_with fail
 go_ret
 exact ⟨ret_str (bs_inj (by rw [HR.out, bs_app, HJT.out])), keepBelow HBX.out (keepBelow HB5.out (keepBelow ((Below.refl _ _).alloc (Nat.le_refl _) _) hb5))⟩
end Go.Proofs.YtlbglinpgjlbkaaGreatDoor
