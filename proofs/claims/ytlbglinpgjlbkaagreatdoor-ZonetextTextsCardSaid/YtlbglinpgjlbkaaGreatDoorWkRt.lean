import Derived.Test.YtlbglinpgjlbkaaGreatDoorWkD9
import Derived.Test.YtlbglinpgjlbkaaGreatDoorWkJ4
/- Zone texts: the reference's RuleText. Printed by gen_rt.py. No conditions. -/
namespace Go.Proofs.YtlbglinpgjlbkaaGreatDoor
open Go.RowKit Wk

set_option maxRecDepth 100000 in
set_option maxHeartbeats 16000000 in
theorem ruleText19_any (r : RuT) (hr : ruB r = true) (w : World) :
  Calls Tryz.prog 105 #[ruV r] w fun e w' => e = .returned (.string ⟨(joinT (ruleW r) ++ [10]).toArray⟩) ∧ Below w.heap.size w w' := by
 have hwl := ruleW_len hr
 obtain ⟨p1, p2, p3, p4, p5, p6, p7⟩ := ru_parts hr
 obtain ⟨⟨m1, m2⟩, m3, -, ⟨m4, m5⟩, m6, m7⟩ := mom_parts p5
 have hs := sav_parts p6
 obtain ⟨nm, fr, tu, mo, ⟨k, v, d⟩, at_, ck, sv, le⟩ := r
 obtain ⟨NM, rfl⟩ := bs_of nm
 obtain ⟨LE, rfl⟩ := bs_of le
 simp only at p1 p2 p3 p4 p5 p6 p7 m1 m2 m3 m4 m5 m6 m7 hs
 obtain ⟨FT, hFT⟩ : ∃ D : ByteArray, ⟨(Lib.itoa fr).toArray⟩ = D := ⟨_, rfl⟩
 have HFT : Hid (bsO FT = Lib.itoa fr) := Lib.hid (by rw [← hFT])
 obtain ⟨UT, hUT⟩ : ∃ D : ByteArray, ⟨(Lib.itoa tu).toArray⟩ = D := ⟨_, rfl⟩
 have HUT : Hid (bsO UT = Lib.itoa tu) := Lib.hid (by rw [← hUT])
 obtain ⟨MT, hMT⟩ : ∃ D : ByteArray, ⟨(getM monthL mo).toArray⟩ = D := ⟨_, rfl⟩
 have HMT : Hid (bsO MT = getM monthL mo) := Lib.hid (by rw [← hMT])
 obtain ⟨DT, hDT⟩ : ∃ D : ByteArray, ⟨(onT ⟨k, v, d⟩).toArray⟩ = D := ⟨_, rfl⟩
 have HDT : Hid (bsO DT = onT ⟨k, v, d⟩) := Lib.hid (by rw [← hDT])
 obtain ⟨KT, hKT⟩ : ∃ D : ByteArray, ⟨(clockT at_ ck).toArray⟩ = D := ⟨_, rfl⟩
 have HKT : Hid (bsO KT = clockT at_ ck) := Lib.hid (by rw [← hKT])
 obtain ⟨VT, hVT⟩ : ∃ D : ByteArray, ⟨(offsetT sv).toArray⟩ = D := ⟨_, rfl⟩
 have HVT : Hid (bsO VT = offsetT sv) := Lib.hid (by rw [← hVT])
 obtain ⟨LT, hLT⟩ : ∃ D : ByteArray, ⟨(dashT (bsO LE)).toArray⟩ = D := ⟨_, rfl⟩
 have HLT : Hid (bsO LT = dashT (bsO LE)) := Lib.hid (by rw [← hLT])
 have HDF : Hid (∀ W, Calls Tryz.prog 99 #[.int .i64 fr] W fun e w' => e = .returned (.string FT) ∧ Below W.heap.size W w') := Lib.hid (by rw [← hFT]; exact fun W => decimal_any fr p2 (by omega) W)
 have HDU : Hid (∀ W, Calls Tryz.prog 99 #[.int .i64 tu] W fun e w' => e = .returned (.string UT) ∧ Below W.heap.size W w') := Lib.hid (by rw [← hUT]; exact fun W => decimal_any tu (by omega) p4 W)
 have HGE : Hid (∀ W u, RdSt W u monthL → Calls Tryz.prog 98 #[u, .int .i64 mo] W fun e w' => e = .returned (.string MT) ∧ w' = W) := Lib.hid (by rw [← hMT]; exact fun W u hu => get18_any u monthL mo W hu (by decide))
 have HON : Hid (∀ W, Calls Tryz.prog 31 #[.agg #[.int .i64 k, .int .i64 v, .int .i64 d]] W fun e w' => e = .returned (.string DT) ∧ Below W.heap.size W w') := Lib.hid (by rw [← hDT]; exact fun W => onText19_any ⟨k, v, d⟩ W)
 have HCL : Hid (∀ W, Calls Tryz.prog 167 #[.int .i64 at_, .int .i64 ck] W fun e w' => e = .returned (.string KT) ∧ w' = W) := Lib.hid (by rw [← hKT]; exact fun W => clockText18_any at_ ck W)
 have HSV : Hid (∀ W, Calls Tryz.prog 168 #[.int .i64 sv] W fun e w' => e = .returned (.string VT) ∧ w' = W) := Lib.hid (by rw [← hVT]; exact fun W => offsetText18_any sv W)
 clear hFT hUT hMT hDT hKT hVT hLT
 have HTO : Hid (∀ TO : ByteArray, bsO TO = (if tu = fr then [111, 110, 108, 121] else if tu = 9999 then [109, 97, 120] else Lib.itoa tu) → ([⟨#[114, 117, 108, 101]⟩, NM, FT, TO, MT, DT, KT, VT, LT] : List ByteArray).map bsO = ruleW ⟨bsO NM, fr, tu, mo, ⟨k, v, d⟩, at_, ck, sv, bsO LE⟩) := Lib.hid fun TO h => by
  simp only [List.map_cons, List.map_nil, HFT.out, h, HMT.out, HDT.out, HKT.out, HVT.out, HLT.out]
  rfl
 have HSZ : Hid (∀ TO : ByteArray, bsO TO = (if tu = fr then [111, 110, 108, 121] else if tu = 9999 then [109, 97, 120] else Lib.itoa tu) → ∀ x ∈ ([⟨#[114, 117, 108, 101]⟩, NM, FT, TO, MT, DT, KT, VT, LT] : List ByteArray), (x.size : Int) ≤ 30) := Lib.hid fun TO h x hx => by
  have h2 := hwl (bsO x) (by rw [← HTO.out TO h]; exact List.mem_map_of_mem hx)
  rw [bs_len] at h2
  omega
 obtain ⟨R, hR⟩ : ∃ R : ByteArray, ⟨(joinT (ruleW ⟨bsO NM, fr, tu, mo, ⟨k, v, d⟩, at_, ck, sv, bsO LE⟩) ++ [10]).toArray⟩ = R := ⟨_, rfl⟩
 have HR : Hid (bsO R = joinT (ruleW ⟨bsO NM, fr, tu, mo, ⟨k, v, d⟩, at_, ck, sv, bsO LE⟩) ++ [10]) := Lib.hid (by rw [← hR])
 rw [hR]
 clear hR hwl p1 p2 p3 p5 p6 p7 m1 m2 m3 m4 m5 m6 m7 hs
 show Calls _ _ #[.agg #[.string NM, .int .i64 fr, .int .i64 tu, .int .i64 mo, .int .i64 k, .int .i64 v, .int .i64 d, .int .i64 at_, .int .i64 ck, .int .i64 sv, .string LE]] w _
 go_enter Tryz.func105, Tryz.ntmps105
 go_upto_region 1 with fail
 obtain ⟨b1, hb1⟩ : ∃ b, w.heap.size = b := ⟨_, rfl⟩
 obtain ⟨X, hX⟩ : ∃ X, w.alloc (.cells #[.string NM, .int .i64 fr, .int .i64 tu, .int .i64 mo, .int .i64 k, .int .i64 v, .int .i64 d, .int .i64 at_, .int .i64 ck, .int .i64 sv, .string LE] 41) = X := ⟨_, rfl⟩
 have HBX : Hid (Below w.heap.size w X) := Lib.hid (by rw [← hX]; exact (Below.refl _ _).alloc (Nat.le_refl _) _)
 have HX1 : Hid (Blk X b1 #[.string NM, .int .i64 fr, .int .i64 tu, .int .i64 mo, .int .i64 k, .int .i64 v, .int .i64 d, .int .i64 at_, .int .i64 ck, .int .i64 sv, .string LE] 41) := Lib.hid (by rw [← hX, ← hb1]; exact Blk.new _ _ _)
 try rw [hX]
 try rw [hb1]
 clear hX hb1
 have x2 := HX1.out.cell (j := 2) rfl
 go_upto_region 2 with (first | (go_at_call 99; refine (HDU.out _).mono ?_; rintro e w2 ⟨rfl, hb2⟩; obtain ⟨W2, hW2⟩ : ∃ W, w2 = W := ⟨_, rfl⟩; rw [hW2] at hb2 ⊢; clear hW2; have HB2 := Lib.hid hb2; clear hb2) | fail)
 have y1 := keepCell HB2.out (HX1.out.cell (j := 1) rfl)
 have y2 := keepCell HB2.out x2
 have y10 := keepCell HB2.out (HX1.out.cell (j := 10) rfl)
 clear x2
 go_upto_if 12 with fail
 go_cut [3] from 5 to 15 (fun u wx => ∃ TO : ByteArray, u = .string TO ∧ Hid (bsO TO = (if tu = fr then [111, 110, 108, 121] else if tu = 9999 then [109, 97, 120] else Lib.itoa tu)) ∧ Hid (wx = W2))
 case first =>
  rcases Classical.em (tu = fr) with e1 | e1
  ·have g1 : (tu == fr) = true := by simpa using e1
   have HTW : Hid (bsO ⟨#[111, 110, 108, 121]⟩ = (if tu = fr then [111, 110, 108, 121] else if tu = 9999 then [109, 97, 120] else Lib.itoa tu)) := Lib.hid (by rw [if_pos e1])
   clear e1
   go_wp2_with fail
   go_meet
   exact ⟨_, rfl, HTW, rfl⟩
  rcases Classical.em (tu = 9999) with e2 | e2
  ·have g1 : (tu == fr) = false := by simpa using e1
   have g2 : (tu == 9999) = true := by simpa using e2
   have HTW : Hid (bsO ⟨#[109, 97, 120]⟩ = (if tu = fr then [111, 110, 108, 121] else if tu = 9999 then [109, 97, 120] else Lib.itoa tu)) := Lib.hid (by rw [if_neg e1, if_pos e2])
   clear e1 e2
   go_wp2_with fail
   go_meet
   exact ⟨_, rfl, HTW, rfl⟩
  ·have g1 : (tu == fr) = false := by simpa using e1
   have g2 : (tu == 9999) = false := by simpa using e2
   have HTW : Hid (bsO UT = (if tu = fr then [111, 110, 108, 121] else if tu = 9999 then [109, 97, 120] else Lib.itoa tu)) := Lib.hid (by rw [if_neg e1, if_neg e2]; exact HUT.out)
   clear e1 e2
   go_wp2_with fail
   go_meet
   exact ⟨_, rfl, HTW, rfl⟩
 case rest =>
 obtain ⟨TO, rfl, HTE, HWX⟩ := hcut
 rw [HWX.out]
 clear HWX
 go_upto_if 19 with fail
 go_cut [4] from 5 to 19 (fun u wx => u = .string LT ∧ Hid (wx = W2))
 case first =>
  have HLV : Hid (LT = if LE.toList = [] then ⟨#[45]⟩ else LE) := Lib.hid (bs_inj (by
   rw [HLT.out]
   unfold dashT
   simp only [tl_ne]
   split <;> rfl))
  cases hq : LE.toList.isEmpty with
  | true =>
   have HLW : Hid (⟨#[45]⟩ = LT) := Lib.hid (by rw [HLV.out, if_pos (by simpa using hq)])
   clear HLV hq
   go_wp2_with fail
   go_meet
   exact ⟨congrArg Value.string HLW.out, rfl⟩
  | false =>
   have HLW : Hid (LE = LT) := Lib.hid (by rw [HLV.out, if_neg (by simpa using hq)])
   clear HLV hq
   go_wp2_with fail
   go_meet
   exact ⟨congrArg Value.string HLW.out, rfl⟩
 case rest =>
 obtain ⟨rfl, HWX⟩ := hcut
 rw [HWX.out]
 clear HWX y1 y2 y10
 have HBC := HB2
 obtain ⟨W3, hW3⟩ : ∃ W, W2 = W := ⟨_, rfl⟩
 rw [hW3] at HBC ⊢
 clear HB2 hW3
 go_upto_region 9 with fail
 have sNM : (NM.size : Int) ≤ 30 := HSZ.out TO HTE.out _ (by simp)
 have sFT : (FT.size : Int) ≤ 30 := HSZ.out TO HTE.out _ (by simp)
 have sTO : (TO.size : Int) ≤ 30 := HSZ.out TO HTE.out _ (by simp)
 have sMT : (MT.size : Int) ≤ 30 := HSZ.out TO HTE.out _ (by simp)
 have sDT : (DT.size : Int) ≤ 30 := HSZ.out TO HTE.out _ (by simp)
 have sKT : (KT.size : Int) ≤ 30 := HSZ.out TO HTE.out _ (by simp)
 have sVT : (VT.size : Int) ≤ 30 := HSZ.out TO HTE.out _ (by simp)
 have sLT : (LT.size : Int) ≤ 30 := HSZ.out TO HTE.out _ (by simp)
 have HTL := Lib.hid (HTO.out TO HTE.out)
 have HSK : Hid (∀ W, Below X.heap.size X W → W.cell? ⟨b1, 0, none⟩ = some (.string NM) ∧ W.cell? ⟨b1, 1, none⟩ = some (.int .i64 fr) ∧ W.cell? ⟨b1, 3, none⟩ = some (.int .i64 mo) ∧ W.cell? ⟨b1, 4, none⟩ = some (.int .i64 k) ∧ W.cell? ⟨b1, 5, none⟩ = some (.int .i64 v) ∧ W.cell? ⟨b1, 6, none⟩ = some (.int .i64 d) ∧ W.cell? ⟨b1, 7, none⟩ = some (.int .i64 at_) ∧ W.cell? ⟨b1, 8, none⟩ = some (.int .i64 ck) ∧ W.cell? ⟨b1, 9, none⟩ = some (.int .i64 sv)) := Lib.hid fun W hW => ⟨(HX1.out.below hW).cell (j := 0) rfl, (HX1.out.below hW).cell (j := 1) rfl, (HX1.out.below hW).cell (j := 3) rfl, (HX1.out.below hW).cell (j := 4) rfl, (HX1.out.below hW).cell (j := 5) rfl, (HX1.out.below hW).cell (j := 6) rfl, (HX1.out.below hW).cell (j := 7) rfl, (HX1.out.below hW).cell (j := 8) rfl, (HX1.out.below hW).cell (j := 9) rfl⟩
 have HBA : Hid (Below X.heap.size X W3.drew) := Lib.hid (keepBelow HBC.out ((Below.refl _ W3).drew))
 clear HSZ HTE HTO
 obtain ⟨P22, hP22⟩ : ∃ D : ByteArray, (⟨#[114, 117, 108, 101, 32]⟩ : ByteArray) ++ NM = D := ⟨_, rfl⟩
 have HP22 := Lib.hid hP22
 have p22 : (P22.size : Int) ≤ 35 := by
  rw [← hP22, ByteArray.size_append]
  have : (⟨#[114, 117, 108, 101, 32]⟩ : ByteArray).size = 5 := rfl
  omega
 clear hP22
 obtain ⟨P23, hP23⟩ : ∃ D : ByteArray, P22 ++ (⟨#[32]⟩ : ByteArray) = D := ⟨_, rfl⟩
 have HP23 := Lib.hid hP23
 have p23 : (P23.size : Int) ≤ 36 := by
  rw [← hP23, ByteArray.size_append]
  have : (⟨#[32]⟩ : ByteArray).size = 1 := rfl
  omega
 clear hP23
 obtain ⟨P27, hP27⟩ : ∃ D : ByteArray, P23 ++ FT = D := ⟨_, rfl⟩
 have HP27 := Lib.hid hP27
 have p27 : (P27.size : Int) ≤ 66 := by
  rw [← hP27, ByteArray.size_append]
  omega
 clear hP27
 obtain ⟨P28, hP28⟩ : ∃ D : ByteArray, P27 ++ (⟨#[32]⟩ : ByteArray) = D := ⟨_, rfl⟩
 have HP28 := Lib.hid hP28
 have p28 : (P28.size : Int) ≤ 67 := by
  rw [← hP28, ByteArray.size_append]
  have : (⟨#[32]⟩ : ByteArray).size = 1 := rfl
  omega
 clear hP28
 obtain ⟨P30, hP30⟩ : ∃ D : ByteArray, P28 ++ TO = D := ⟨_, rfl⟩
 have HP30 := Lib.hid hP30
 have p30 : (P30.size : Int) ≤ 97 := by
  rw [← hP30, ByteArray.size_append]
  omega
 clear hP30
 obtain ⟨P31, hP31⟩ : ∃ D : ByteArray, P30 ++ (⟨#[32]⟩ : ByteArray) = D := ⟨_, rfl⟩
 have HP31 := Lib.hid hP31
 have p31 : (P31.size : Int) ≤ 98 := by
  rw [← hP31, ByteArray.size_append]
  have : (⟨#[32]⟩ : ByteArray).size = 1 := rfl
  omega
 clear hP31
 obtain ⟨P36, hP36⟩ : ∃ D : ByteArray, P31 ++ MT = D := ⟨_, rfl⟩
 have HP36 := Lib.hid hP36
 have p36 : (P36.size : Int) ≤ 128 := by
  rw [← hP36, ByteArray.size_append]
  omega
 clear hP36
 obtain ⟨P37, hP37⟩ : ∃ D : ByteArray, P36 ++ (⟨#[32]⟩ : ByteArray) = D := ⟨_, rfl⟩
 have HP37 := Lib.hid hP37
 have p37 : (P37.size : Int) ≤ 129 := by
  rw [← hP37, ByteArray.size_append]
  have : (⟨#[32]⟩ : ByteArray).size = 1 := rfl
  omega
 clear hP37
 obtain ⟨P41, hP41⟩ : ∃ D : ByteArray, P37 ++ DT = D := ⟨_, rfl⟩
 have HP41 := Lib.hid hP41
 have p41 : (P41.size : Int) ≤ 159 := by
  rw [← hP41, ByteArray.size_append]
  omega
 clear hP41
 obtain ⟨P42, hP42⟩ : ∃ D : ByteArray, P41 ++ (⟨#[32]⟩ : ByteArray) = D := ⟨_, rfl⟩
 have HP42 := Lib.hid hP42
 have p42 : (P42.size : Int) ≤ 160 := by
  rw [← hP42, ByteArray.size_append]
  have : (⟨#[32]⟩ : ByteArray).size = 1 := rfl
  omega
 clear hP42
 obtain ⟨P48, hP48⟩ : ∃ D : ByteArray, P42 ++ KT = D := ⟨_, rfl⟩
 have HP48 := Lib.hid hP48
 have p48 : (P48.size : Int) ≤ 190 := by
  rw [← hP48, ByteArray.size_append]
  omega
 clear hP48
 obtain ⟨P49, hP49⟩ : ∃ D : ByteArray, P48 ++ (⟨#[32]⟩ : ByteArray) = D := ⟨_, rfl⟩
 have HP49 := Lib.hid hP49
 have p49 : (P49.size : Int) ≤ 191 := by
  rw [← hP49, ByteArray.size_append]
  have : (⟨#[32]⟩ : ByteArray).size = 1 := rfl
  omega
 clear hP49
 obtain ⟨P53, hP53⟩ : ∃ D : ByteArray, P49 ++ VT = D := ⟨_, rfl⟩
 have HP53 := Lib.hid hP53
 have p53 : (P53.size : Int) ≤ 221 := by
  rw [← hP53, ByteArray.size_append]
  omega
 clear hP53
 obtain ⟨P54, hP54⟩ : ∃ D : ByteArray, P53 ++ (⟨#[32]⟩ : ByteArray) = D := ⟨_, rfl⟩
 have HP54 := Lib.hid hP54
 have p54 : (P54.size : Int) ≤ 222 := by
  rw [← hP54, ByteArray.size_append]
  have : (⟨#[32]⟩ : ByteArray).size = 1 := rfl
  omega
 clear hP54
 obtain ⟨P56, hP56⟩ : ∃ D : ByteArray, P54 ++ LT = D := ⟨_, rfl⟩
 have HP56 := Lib.hid hP56
 have p56 : (P56.size : Int) ≤ 252 := by
  rw [← hP56, ByteArray.size_append]
  omega
 clear hP56
 obtain ⟨P57, hP57⟩ : ∃ D : ByteArray, P56 ++ (⟨#[10]⟩ : ByteArray) = D := ⟨_, rfl⟩
 have HP57 := Lib.hid hP57
 have p57 : (P57.size : Int) ≤ 253 := by
  rw [← hP57, ByteArray.size_append]
  have : (⟨#[10]⟩ : ByteArray).size = 1 := rfl
  omega
 clear hP57
 have HEND : Hid (P57 = R) := Lib.hid (bs_inj (by
  rw [HR.out, ← HTL.out]
  rw [← HP57.out, ← HP56.out, ← HP54.out, ← HP53.out, ← HP49.out, ← HP48.out, ← HP42.out, ← HP41.out, ← HP37.out, ← HP36.out, ← HP31.out, ← HP30.out, ← HP28.out, ← HP27.out, ← HP23.out, ← HP22.out]
  simp only [bs_app, List.map_cons, List.map_nil, joinT, List.append_assoc, List.cons_append]
  rfl))
 refine wp_region_held_drew (S := fun w' => w'.cell? ⟨b1, 0, none⟩ = some (.string NM) ∧ w'.cell? ⟨b1, 1, none⟩ = some (.int .i64 fr) ∧ w'.cell? ⟨b1, 3, none⟩ = some (.int .i64 mo) ∧ w'.cell? ⟨b1, 4, none⟩ = some (.int .i64 k) ∧ w'.cell? ⟨b1, 5, none⟩ = some (.int .i64 v) ∧ w'.cell? ⟨b1, 6, none⟩ = some (.int .i64 d) ∧ w'.cell? ⟨b1, 7, none⟩ = some (.int .i64 at_) ∧ w'.cell? ⟨b1, 8, none⟩ = some (.int .i64 ck) ∧ w'.cell? ⟨b1, 9, none⟩ = some (.int .i64 sv)) (by kernel_rfl) ?_ (fun hHeld => ?_)
 ·exact HSK.out _ HBA.out
 refine wpAnyH_take (i := 0) (v := ?v12) rfl (by kernel_rfl) (by kernel_rfl) (by kernel_rfl) (fun _ _ _ h => h) (Or.inl ⟨by rfl, ?hy12⟩) (by assumption) ?rest12
 case hy12 =>
  intro w hSw
  try dsimp only at hSw
  go_simp
  try with_reducible rfl
 case rest12 =>
 refine wpAnyH_take (i := 1) (v := ?v13) rfl (by kernel_rfl) (by kernel_rfl) (by kernel_rfl) (fun _ _ _ h => h) (Or.inl ⟨by rfl, ?hy13⟩) (by assumption) ?rest13
 case hy13 =>
  intro w hSw
  try dsimp only at hSw
  go_simp
  try with_reducible rfl
 case rest13 =>
 refine wpAnyH_take (i := 2) (v := .string P22) rfl (by kernel_rfl) (by kernel_rfl) (by kernel_rfl) (fun _ _ _ h => h) (Or.inl ⟨by rfl, ?hy14⟩) (by assumption) ?rest14
 case hy14 =>
  intro w hSw
  clear hSw
  go_simp
  rw [if_neg (by omega)]
  rw [HP22.out]
 case rest14 =>
 refine wpAnyH_take (i := 3) (v := .string P23) rfl (by kernel_rfl) (by kernel_rfl) (by kernel_rfl) (fun _ _ _ h => h) (Or.inl ⟨by rfl, ?hy15⟩) (by assumption) ?rest15
 case hy15 =>
  intro w hSw
  clear hSw
  go_simp
  rw [if_neg (by omega)]
  rw [HP23.out]
 case rest15 =>
 refine wpAnyH_take (i := 4) (v := ?v16) rfl (by kernel_rfl) (by kernel_rfl) (by kernel_rfl) (fun _ _ _ h => h) (Or.inl ⟨by rfl, ?hy16⟩) (by assumption) ?rest16
 case hy16 =>
  intro w hSw
  try dsimp only at hSw
  go_simp
  try with_reducible rfl
 case rest16 =>
 refine wpAnyH_take (i := 5) (v := ?v17) rfl (by kernel_rfl) (by kernel_rfl) (by kernel_rfl) (fun _ _ _ h => h) (Or.inl ⟨by rfl, ?hy17⟩) (by assumption) ?rest17
 case hy17 =>
  intro w hSw
  try dsimp only at hSw
  go_simp
  try with_reducible rfl
 case rest17 =>
 refine wpAnyH_take (i := 9) (v := ?v18) rfl (by kernel_rfl) (by kernel_rfl) (by kernel_rfl) (fun _ _ _ h => h) (Or.inl ⟨by rfl, ?hy18⟩) (by assumption) ?rest18
 case hy18 =>
  intro w hSw
  try dsimp only at hSw
  go_simp
  try with_reducible rfl
 case rest18 =>
 refine wpAnyH_take (i := 13) (v := ?v19) rfl (by kernel_rfl) (by kernel_rfl) (by kernel_rfl) (fun _ _ _ h => h) (Or.inl ⟨by rfl, ?hy19⟩) (by assumption) ?rest19
 case hy19 =>
  intro w hSw
  try dsimp only at hSw
  go_simp
  try with_reducible rfl
 case rest19 =>
 refine wpAnyH_take (i := 14) (v := ?v20) rfl (by kernel_rfl) (by kernel_rfl) (by kernel_rfl) (fun _ _ _ h => h) (Or.inl ⟨by rfl, ?hy20⟩) (by assumption) ?rest20
 case hy20 =>
  intro w hSw
  try dsimp only at hSw
  go_simp
  try with_reducible rfl
 case rest20 =>
 refine wpAnyH_take (i := 18) (v := ?v21) rfl (by kernel_rfl) (by kernel_rfl) (by kernel_rfl) (fun _ _ _ h => h) (Or.inl ⟨by rfl, ?hy21⟩) (by assumption) ?rest21
 case hy21 =>
  intro w hSw
  try dsimp only at hSw
  go_simp
  try with_reducible rfl
 case rest21 =>
 refine wpAnyH_take (i := 19) (v := ?v22) rfl (by kernel_rfl) (by kernel_rfl) (by kernel_rfl) (fun _ _ _ h => h) (Or.inl ⟨by rfl, ?hy22⟩) (by assumption) ?rest22
 case hy22 =>
  intro w hSw
  try dsimp only at hSw
  go_simp
  try with_reducible rfl
 case rest22 =>
 refine wpAnyH_take (i := 23) (v := ?v23) rfl (by kernel_rfl) (by kernel_rfl) (by kernel_rfl) (fun _ _ _ h => h) (Or.inl ⟨by rfl, ?hy23⟩) (by assumption) ?rest23
 case hy23 =>
  intro w hSw
  try dsimp only at hSw
  go_simp
  try with_reducible rfl
 case rest23 =>
 refine wpAnyH_take (i := 24) (v := ?v24) rfl (by kernel_rfl) (by kernel_rfl) (by kernel_rfl) (fun _ _ _ h => h) (Or.inl ⟨by rfl, ?hy24⟩) (by assumption) ?rest24
 case hy24 =>
  intro w hSw
  try dsimp only at hSw
  go_simp
  try with_reducible rfl
 case rest24 =>
 refine wpAnyH_take (i := 25) (v := ?v25) rfl (by kernel_rfl) (by kernel_rfl) (by kernel_rfl) (fun _ _ _ h => h) (Or.inl ⟨by rfl, ?hy25⟩) (by assumption) ?rest25
 case hy25 =>
  intro w hSw
  try dsimp only at hSw
  go_simp
  try with_reducible rfl
 case rest25 =>
 refine wpAnyH_take (i := 26) (v := ?v26) rfl (by kernel_rfl) (by kernel_rfl) (by kernel_rfl) (fun _ _ _ h => h) (Or.inl ⟨by rfl, ?hy26⟩) (by assumption) ?rest26
 case hy26 =>
  intro w hSw
  try dsimp only at hSw
  go_simp
  try with_reducible rfl
 case rest26 =>
 refine wpAnyH_take (i := 30) (v := ?v27) rfl (by kernel_rfl) (by kernel_rfl) (by kernel_rfl) (fun _ _ _ h => h) (Or.inl ⟨by rfl, ?hy27⟩) (by assumption) ?rest27
 case hy27 =>
  intro w hSw
  try dsimp only at hSw
  go_simp
  try with_reducible rfl
 case rest27 =>
 refine wpAnyH_take (i := 31) (v := ?v28) rfl (by kernel_rfl) (by kernel_rfl) (by kernel_rfl) (fun _ _ _ h => h) (Or.inl ⟨by rfl, ?hy28⟩) (by assumption) ?rest28
 case hy28 =>
  intro w hSw
  try dsimp only at hSw
  go_simp
  try with_reducible rfl
 case rest28 =>
 refine wpAnyH_take (i := 35) (v := ?v29) rfl (by kernel_rfl) (by kernel_rfl) (by kernel_rfl) (fun _ _ _ h => h) (Or.inl ⟨by rfl, ?hy29⟩) (by assumption) ?rest29
 case hy29 =>
  intro w hSw
  try dsimp only at hSw
  go_simp
  try with_reducible rfl
 case rest29 =>
 refine wpAnyH_ready (rs := [6]) (by kernel_rfl) (by simp) ?_
 refine AllReadyH.cons rfl (fun K hK => ?_) AllReadyH.nil
 go_simp
 go_at_call 99
 refine (HDF.out _).mono ?_
 rintro e w4 ⟨rfl, hb4⟩
 have HBB := Lib.hid (keepBelow HBA.out hb4)
 clear hb4
 refine hK.out _ _ ?_ (fun hHeld => ?_)
 ·exact HSK.out _ HBB.out
 clear hK K
 refine wpAnyH_take (i := 7) (v := .string P27) rfl (by kernel_rfl) (by kernel_rfl) (by kernel_rfl) (fun _ _ _ h => h) (Or.inl ⟨by rfl, ?hy30⟩) (by assumption) ?rest30
 case hy30 =>
  intro w hSw
  clear hSw
  go_simp
  rw [if_neg (by omega)]
  rw [HP27.out]
 case rest30 =>
 refine wpAnyH_take (i := 8) (v := .string P28) rfl (by kernel_rfl) (by kernel_rfl) (by kernel_rfl) (fun _ _ _ h => h) (Or.inl ⟨by rfl, ?hy31⟩) (by assumption) ?rest31
 case hy31 =>
  intro w hSw
  clear hSw
  go_simp
  rw [if_neg (by omega)]
  rw [HP28.out]
 case rest31 =>
 refine wpAnyH_take (i := 10) (v := .string P30) rfl (by kernel_rfl) (by kernel_rfl) (by kernel_rfl) (fun _ _ _ h => h) (Or.inl ⟨by rfl, ?hy32⟩) (by assumption) ?rest32
 case hy32 =>
  intro w hSw
  clear hSw
  go_simp
  rw [if_neg (by omega)]
  rw [HP30.out]
 case rest32 =>
 refine wpAnyH_take (i := 11) (v := .string P31) rfl (by kernel_rfl) (by kernel_rfl) (by kernel_rfl) (fun _ _ _ h => h) (Or.inl ⟨by rfl, ?hy33⟩) (by assumption) ?rest33
 case hy33 =>
  intro w hSw
  clear hSw
  go_simp
  rw [if_neg (by omega)]
  rw [HP31.out]
 case rest33 =>
 refine wpAnyH_ready (rs := [12]) (by kernel_rfl) (by simp) ?_
 refine AllReadyH.cons rfl (fun K hK => ?_) AllReadyH.nil
 go_simp
 go_at_call 166
 refine (months18_any _).mono ?_
 rintro e w5 ⟨⟨u, rfl, hv⟩, hb5⟩
 have HVR := Lib.hid hv
 have HBD := Lib.hid (keepBelow HBB.out hb5)
 clear hb5
 obtain ⟨av, cv, rfl⟩ := hv.form
 clear hv
 refine hK.out _ _ ?_ (fun hHeld => ?_)
 ·exact HSK.out _ HBD.out
 clear hK K
 refine wpAnyH_ready (rs := [15]) (by kernel_rfl) (by simp) ?_
 refine AllReadyH.cons rfl (fun K hK => ?_) AllReadyH.nil
 go_simp
 go_at_call 98
 refine (HGE.out _ _ HVR.out).mono ?_
 rintro e w6 ⟨rfl, hw6⟩
 rw [hw6]
 clear hw6
 refine hK.out _ _ ?_ (fun hHeld => ?_)
 ·exact HSK.out _ HBD.out
 clear hK K
 refine wpAnyH_take (i := 16) (v := .string P36) rfl (by kernel_rfl) (by kernel_rfl) (by kernel_rfl) (fun _ _ _ h => h) (Or.inl ⟨by rfl, ?hy34⟩) (by assumption) ?rest34
 case hy34 =>
  intro w hSw
  clear hSw
  go_simp
  rw [if_neg (by omega)]
  rw [HP36.out]
 case rest34 =>
 refine wpAnyH_take (i := 17) (v := .string P37) rfl (by kernel_rfl) (by kernel_rfl) (by kernel_rfl) (fun _ _ _ h => h) (Or.inl ⟨by rfl, ?hy35⟩) (by assumption) ?rest35
 case hy35 =>
  intro w hSw
  clear hSw
  go_simp
  rw [if_neg (by omega)]
  rw [HP37.out]
 case rest35 =>
 refine wpAnyH_ready (rs := [20]) (by kernel_rfl) (by simp) ?_
 refine AllReadyH.cons rfl (fun K hK => ?_) AllReadyH.nil
 go_simp
 go_at_call 31
 refine (HON.out _).mono ?_
 rintro e w7 ⟨rfl, hb7⟩
 have HBE := Lib.hid (keepBelow HBD.out hb7)
 clear hb7
 refine hK.out _ _ ?_ (fun hHeld => ?_)
 ·exact HSK.out _ HBE.out
 clear hK K
 refine wpAnyH_take (i := 21) (v := .string P41) rfl (by kernel_rfl) (by kernel_rfl) (by kernel_rfl) (fun _ _ _ h => h) (Or.inl ⟨by rfl, ?hy36⟩) (by assumption) ?rest36
 case hy36 =>
  intro w hSw
  clear hSw
  go_simp
  rw [if_neg (by omega)]
  rw [HP41.out]
 case rest36 =>
 refine wpAnyH_take (i := 22) (v := .string P42) rfl (by kernel_rfl) (by kernel_rfl) (by kernel_rfl) (fun _ _ _ h => h) (Or.inl ⟨by rfl, ?hy37⟩) (by assumption) ?rest37
 case hy37 =>
  intro w hSw
  clear hSw
  go_simp
  rw [if_neg (by omega)]
  rw [HP42.out]
 case rest37 =>
 refine wpAnyH_ready (rs := [27]) (by kernel_rfl) (by simp) ?_
 refine AllReadyH.cons rfl (fun K hK => ?_) AllReadyH.nil
 go_simp
 go_at_call 167
 refine (HCL.out _).mono ?_
 rintro e w8 ⟨rfl, hw8⟩
 rw [hw8]
 clear hw8
 refine hK.out _ _ ?_ (fun hHeld => ?_)
 ·exact HSK.out _ HBE.out
 clear hK K
 refine wpAnyH_take (i := 28) (v := .string P48) rfl (by kernel_rfl) (by kernel_rfl) (by kernel_rfl) (fun _ _ _ h => h) (Or.inl ⟨by rfl, ?hy38⟩) (by assumption) ?rest38
 case hy38 =>
  intro w hSw
  clear hSw
  go_simp
  rw [if_neg (by omega)]
  rw [HP48.out]
 case rest38 =>
 refine wpAnyH_take (i := 29) (v := .string P49) rfl (by kernel_rfl) (by kernel_rfl) (by kernel_rfl) (fun _ _ _ h => h) (Or.inl ⟨by rfl, ?hy39⟩) (by assumption) ?rest39
 case hy39 =>
  intro w hSw
  clear hSw
  go_simp
  rw [if_neg (by omega)]
  rw [HP49.out]
 case rest39 =>
 refine wpAnyH_ready (rs := [32]) (by kernel_rfl) (by simp) ?_
 refine AllReadyH.cons rfl (fun K hK => ?_) AllReadyH.nil
 go_simp
 go_at_call 168
 refine (HSV.out _).mono ?_
 rintro e w9 ⟨rfl, hw9⟩
 rw [hw9]
 clear hw9
 refine hK.out _ _ ?_ (fun hHeld => ?_)
 ·exact HSK.out _ HBE.out
 clear hK K
 refine wpAnyH_take (i := 33) (v := .string P53) rfl (by kernel_rfl) (by kernel_rfl) (by kernel_rfl) (fun _ _ _ h => h) (Or.inl ⟨by rfl, ?hy40⟩) (by assumption) ?rest40
 case hy40 =>
  intro w hSw
  clear hSw
  go_simp
  rw [if_neg (by omega)]
  rw [HP53.out]
 case rest40 =>
 refine wpAnyH_take (i := 34) (v := .string P54) rfl (by kernel_rfl) (by kernel_rfl) (by kernel_rfl) (fun _ _ _ h => h) (Or.inl ⟨by rfl, ?hy41⟩) (by assumption) ?rest41
 case hy41 =>
  intro w hSw
  clear hSw
  go_simp
  rw [if_neg (by omega)]
  rw [HP54.out]
 case rest41 =>
 refine wpAnyH_take (i := 36) (v := .string P56) rfl (by kernel_rfl) (by kernel_rfl) (by kernel_rfl) (fun _ _ _ h => h) (Or.inl ⟨by rfl, ?hy42⟩) (by assumption) ?rest42
 case hy42 =>
  intro w hSw
  clear hSw
  go_simp
  rw [if_neg (by omega)]
  rw [HP56.out]
 case rest42 =>
 refine wpAnyH_take (i := 37) (v := .string P57) rfl (by kernel_rfl) (by kernel_rfl) (by kernel_rfl) (fun _ _ _ h => h) (Or.inl ⟨by rfl, ?hy43⟩) (by assumption) ?rest43
 case hy43 =>
  intro w hSw
  clear hSw
  go_simp
  rw [if_neg (by omega)]
  rw [HP57.out]
 case rest43 =>
 refine wpAnyH_take (i := 38) (v := ?v44) rfl (by kernel_rfl) (by kernel_rfl) (by kernel_rfl) (fun _ _ _ h => h) (Or.inl ⟨by rfl, ?hy44⟩) (by assumption) ?rest44
 case hy44 =>
  intro w hSw
  try dsimp only at hSw
  go_simp
  try with_reducible rfl
 case rest44 =>
 refine wpAnyH_done (by kernel_rfl) ?_ _
 go_wp2_with fail
 go_ret
 exact ⟨congrArg (fun x => Ending.returned (.string x)) HEND.out, keepBelow HBX.out HBE.out⟩

end Go.Proofs.YtlbglinpgjlbkaaGreatDoor
