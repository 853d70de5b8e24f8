import Derived.Test.YtlbglinpgjlbkaaGreatDoorWkRt
/- Zone texts: the reference's LineText. Printed by gen_lt.py. No conditions. -/
namespace Go.Proofs.YtlbglinpgjlbkaaGreatDoor
open Go.RowKit Wk

set_option maxRecDepth 100000 in
set_option maxHeartbeats 16000000 in
theorem lineText19_any (l : LiT) (hl : liB l = true) (w : World) :
  Calls Tryz.prog 106 #[liV l] w fun e w' => e = .returned (.string ⟨(joinT (lineW l) ++ [10]).toArray⟩) ∧ Below w.heap.size w w' := by
 have hwl := lineW_len hl
 obtain ⟨q1, q2, q3, q4, q5, q6⟩ := li_parts hl
 obtain ⟨of_, ru, sv, fm, la, ⟨yr, mo, ⟨k, v, d⟩, at_, ck⟩⟩ := l
 obtain ⟨RU, rfl⟩ := bs_of ru
 obtain ⟨FM, rfl⟩ := bs_of fm
 have HUN : Hid (la = false → 1 ≤ yr ∧ yr ≤ 9999) := Lib.hid fun h => by
  obtain ⟨m1, -⟩ := q6 h
  exact ⟨m1.1, m1.2⟩
 obtain ⟨OT, hOT⟩ : ∃ D : ByteArray, ⟨(offsetT of_).toArray⟩ = D := ⟨_, rfl⟩
 have HOT : Hid (bsO OT = offsetT of_) := Lib.hid (by rw [← hOT])
 obtain ⟨ST, hST⟩ : ∃ D : ByteArray, ⟨(offsetT sv).toArray⟩ = D := ⟨_, rfl⟩
 have HST : Hid (bsO ST = offsetT sv) := Lib.hid (by rw [← hST])
 obtain ⟨YT, hYT⟩ : ∃ D : ByteArray, ⟨(Lib.itoa yr).toArray⟩ = D := ⟨_, rfl⟩
 have HYT : Hid (bsO YT = Lib.itoa yr) := Lib.hid (by rw [← hYT])
 obtain ⟨MT, hMT⟩ : ∃ D : ByteArray, ⟨(getM monthL mo).toArray⟩ = D := ⟨_, rfl⟩
 have HMT : Hid (bsO MT = getM monthL mo) := Lib.hid (by rw [← hMT])
 obtain ⟨DT, hDT⟩ : ∃ D : ByteArray, ⟨(onT ⟨k, v, d⟩).toArray⟩ = D := ⟨_, rfl⟩
 have HDT : Hid (bsO DT = onT ⟨k, v, d⟩) := Lib.hid (by rw [← hDT])
 obtain ⟨KT, hKT⟩ : ∃ D : ByteArray, ⟨(clockT at_ ck).toArray⟩ = D := ⟨_, rfl⟩
 have HKT : Hid (bsO KT = clockT at_ ck) := Lib.hid (by rw [← hKT])
 have HOF : Hid (∀ W, Calls Tryz.prog 168 #[.int .i64 of_] W fun e w' => e = .returned (.string OT) ∧ w' = W) := Lib.hid (by rw [← hOT]; exact fun W => offsetText18_any of_ W)
 have HSV : Hid (∀ W, Calls Tryz.prog 168 #[.int .i64 sv] W fun e w' => e = .returned (.string ST) ∧ w' = W) := Lib.hid (by rw [← hST]; exact fun W => offsetText18_any sv W)
 have HDY : Hid (la = false → ∀ W, Calls Tryz.prog 99 #[.int .i64 yr] W fun e w' => e = .returned (.string YT) ∧ Below W.heap.size W w') := Lib.hid (by rw [← hYT]; exact fun h W => decimal_any yr (HUN.out h).1 (HUN.out h).2 W)
 have HGE : Hid (∀ W u, RdSt W u monthL → Calls Tryz.prog 98 #[u, .int .i64 mo] W fun e w' => e = .returned (.string MT) ∧ w' = W) := Lib.hid (by rw [← hMT]; exact fun W u hu => get18_any u monthL mo W hu (by decide))
 have HON : Hid (∀ W, Calls Tryz.prog 31 #[.agg #[.int .i64 k, .int .i64 v, .int .i64 d]] W fun e w' => e = .returned (.string DT) ∧ Below W.heap.size W w') := Lib.hid (by rw [← hDT]; exact fun W => onText19_any ⟨k, v, d⟩ W)
 have HCL : Hid (∀ W, Calls Tryz.prog 167 #[.int .i64 at_, .int .i64 ck] W fun e w' => e = .returned (.string KT) ∧ w' = W) := Lib.hid (by rw [← hKT]; exact fun W => clockText18_any at_ ck W)
 clear hOT hST hYT hMT hDT hKT
 obtain ⟨RT, HRT, HRV⟩ : ∃ RT : ByteArray, Hid (bsO RT = (if bsO RU = [] ∧ sv ≠ 0 then offsetT sv else dashT (bsO RU))) ∧ Hid (RT = if RU.toList = [] then (if sv = 0 then ⟨#[45]⟩ else ST) else RU) := ⟨_, Lib.hid (by
  simp only [tl_ne]
  by_cases e1 : bsO RU = []
  ·rw [if_pos e1]
   by_cases e2 : sv = 0
   ·rw [if_pos e2, if_neg (fun h => h.2 e2)]
    unfold dashT
    rw [if_pos e1]
   ·rw [if_neg e2, if_pos ⟨e1, e2⟩]
    exact HST.out
  ·rw [if_neg e1, if_neg (fun h => e1 h.1)]
   unfold dashT
   rw [if_neg e1]), Lib.hid rfl⟩
 have HSZ : Hid (((OT.size : Int) ≤ 30 ∧ (RT.size : Int) ≤ 30 ∧ (FM.size : Int) ≤ 30) ∧ (la = false → (YT.size : Int) ≤ 30 ∧ (MT.size : Int) ≤ 30 ∧ (DT.size : Int) ≤ 30 ∧ (KT.size : Int) ≤ 30)) := Lib.hid (by
  have key : ∀ x : ByteArray, bsO x ∈ lineW ⟨of_, bsO RU, sv, bsO FM, la, ⟨yr, mo, ⟨k, v, d⟩, at_, ck⟩⟩ → (x.size : Int) ≤ 30 := fun x hx => by
   have := hwl _ hx
   rw [bs_len] at this
   omega
  refine ⟨⟨key _ (by rw [HOT.out]; simp [lineW]), key _ (by rw [HRT.out]; simp [lineW]), key _ (by simp [lineW])⟩, fun h => ?_⟩
  subst h
  exact ⟨key _ (by rw [HYT.out]; simp [lineW]), key _ (by rw [HMT.out]; simp [lineW]), key _ (by rw [HDT.out]; simp [lineW]), key _ (by rw [HKT.out]; simp [lineW])⟩)
 obtain ⟨R, hR⟩ : ∃ R : ByteArray, ⟨(joinT (lineW ⟨of_, bsO RU, sv, bsO FM, la, ⟨yr, mo, ⟨k, v, d⟩, at_, ck⟩⟩) ++ [10]).toArray⟩ = R := ⟨_, rfl⟩
 have HR : Hid (bsO R = joinT (lineW ⟨of_, bsO RU, sv, bsO FM, la, ⟨yr, mo, ⟨k, v, d⟩, at_, ck⟩⟩) ++ [10]) := Lib.hid (by rw [← hR])
 rw [hR]
 clear hR hwl q1 q2 q3 q4 q5 q6 hl HUN
 have so := HSZ.out.1.1
 have sr := HSZ.out.1.2.1
 have sf := HSZ.out.1.2.2
 show Calls _ _ #[.agg #[.int .i64 of_, .string RU, .int .i64 sv, .string FM, .bool la, .int .i64 yr, .int .i64 mo, .int .i64 k, .int .i64 v, .int .i64 d, .int .i64 at_, .int .i64 ck]] w _
 go_enter Tryz.func106, Tryz.ntmps106
 go_upto_region 1 with fail
 obtain ⟨b1, hb1⟩ : ∃ b, w.heap.size = b := ⟨_, rfl⟩
 obtain ⟨X, hX⟩ : ∃ X, w.alloc (.cells #[.int .i64 of_, .string RU, .int .i64 sv, .string FM, .bool la, .int .i64 yr, .int .i64 mo, .int .i64 k, .int .i64 v, .int .i64 d, .int .i64 at_, .int .i64 ck] 102) = X := ⟨_, rfl⟩
 have HBX : Hid (Below w.heap.size w X) := Lib.hid (by rw [← hX]; exact (Below.refl _ _).alloc (Nat.le_refl _) _)
 have HX1 : Hid (Blk X b1 #[.int .i64 of_, .string RU, .int .i64 sv, .string FM, .bool la, .int .i64 yr, .int .i64 mo, .int .i64 k, .int .i64 v, .int .i64 d, .int .i64 at_, .int .i64 ck] 102) := Lib.hid (by rw [← hX, ← hb1]; exact Blk.new _ _ _)
 try rw [hX]
 try rw [hb1]
 clear hX hb1
 have x0 := HX1.out.cell (j := 0) rfl
 have x1 := HX1.out.cell (j := 1) rfl
 have x2 := HX1.out.cell (j := 2) rfl
 have x3 := HX1.out.cell (j := 3) rfl
 have x4 := HX1.out.cell (j := 4) rfl
 have x5 := HX1.out.cell (j := 5) rfl
 have x6 := HX1.out.cell (j := 6) rfl
 have x7 := HX1.out.cell (j := 7) rfl
 have x8 := HX1.out.cell (j := 8) rfl
 have x9 := HX1.out.cell (j := 9) rfl
 have x10 := HX1.out.cell (j := 10) rfl
 have x11 := HX1.out.cell (j := 11) rfl
 go_upto_if 9 with fail
 go_cut [3] from 6 to 15 (fun u wx => u = .string RT ∧ Hid (wx = X))
 case first =>
  cases hq : RU.toList.isEmpty with
  | true =>
   have e1 : RU.toList = [] := by simpa using hq
   by_cases e2 : sv = 0
   ·have HW : Hid (⟨#[45]⟩ = RT) := Lib.hid (by rw [HRV.out, if_pos e1, if_pos e2])
    have g2 : (sv != 0) = false := by simpa using e2
    clear e2 hq e1
    go_wp2_with fail
    go_meet
    exact ⟨congrArg Value.string HW.out, rfl⟩
   ·have HW : Hid (ST = RT) := Lib.hid (by rw [HRV.out, if_pos e1, if_neg e2])
    have g2 : (sv != 0) = true := by simpa using e2
    clear e2 hq e1
    go_wp2_with (first | (go_at_call 168; refine (HSV.out _).mono ?_; rintro e w8 ⟨rfl, hw8⟩; subst hw8) | fail)
    go_meet
    exact ⟨congrArg Value.string HW.out, rfl⟩
  | false =>
   have HW : Hid (RU = RT) := Lib.hid (by rw [HRV.out, if_neg (by simpa using hq)])
   clear hq
   go_wp2_with fail
   go_meet
   exact ⟨congrArg Value.string HW.out, rfl⟩
 case rest =>
 obtain ⟨rfl, HWX⟩ := hcut
 rw [HWX.out]
 clear HWX
 obtain ⟨P19, hP19⟩ : ∃ D : ByteArray, (⟨#[108, 105, 110, 101, 32]⟩ : ByteArray) ++ OT = D := ⟨_, rfl⟩
 have HP19 := Lib.hid hP19
 have p19 : (P19.size : Int) ≤ 35 := by
  rw [← hP19, ByteArray.size_append]
  have : (⟨#[108, 105, 110, 101, 32]⟩ : ByteArray).size = 5 := rfl
  omega
 clear hP19
 obtain ⟨P20, hP20⟩ : ∃ D : ByteArray, P19 ++ (⟨#[32]⟩ : ByteArray) = D := ⟨_, rfl⟩
 have HP20 := Lib.hid hP20
 have p20 : (P20.size : Int) ≤ 36 := by
  rw [← hP20, ByteArray.size_append]
  have : (⟨#[32]⟩ : ByteArray).size = 1 := rfl
  omega
 clear hP20
 obtain ⟨P22, hP22⟩ : ∃ D : ByteArray, P20 ++ RT = D := ⟨_, rfl⟩
 have HP22 := Lib.hid hP22
 have p22 : (P22.size : Int) ≤ 66 := by
  rw [← hP22, ByteArray.size_append]
  omega
 clear hP22
 obtain ⟨P23, hP23⟩ : ∃ D : ByteArray, P22 ++ (⟨#[32]⟩ : ByteArray) = D := ⟨_, rfl⟩
 have HP23 := Lib.hid hP23
 have p23 : (P23.size : Int) ≤ 67 := by
  rw [← hP23, ByteArray.size_append]
  have : (⟨#[32]⟩ : ByteArray).size = 1 := rfl
  omega
 clear hP23
 obtain ⟨P26, hP26⟩ : ∃ D : ByteArray, P23 ++ FM = D := ⟨_, rfl⟩
 have HP26 := Lib.hid hP26
 have p26 : (P26.size : Int) ≤ 97 := by
  rw [← hP26, ByteArray.size_append]
  omega
 clear hP26
 go_upto_region 6 with fail
 go_cut [4] from 6 to 26 (fun u wx => u = .string P26 ∧ Hid (Below X.heap.size X wx))
 case first =>
  have HXD : Hid (X.drew.cell? ⟨b1, 0, none⟩ = some (.int .i64 of_) ∧ X.drew.cell? ⟨b1, 3, none⟩ = some (.string FM)) := Lib.hid ⟨x0, x3⟩
  refine wp_region_held_drew (S := fun w' => w'.cell? ⟨b1, 0, none⟩ = some (.int .i64 of_) ∧ w'.cell? ⟨b1, 3, none⟩ = some (.string FM)) (by kernel_rfl) ?_ (fun hHeld => ?_)
  ·exact HXD.out
  refine wpAnyH_take (i := 0) (v := ?v1) rfl (by kernel_rfl) (by kernel_rfl) (by kernel_rfl) (fun _ _ _ h => h) (Or.inl ⟨by rfl, ?hy1⟩) (by assumption) ?rest1
  case hy1 =>
   intro w hSw
   try dsimp only at hSw
   go_simp
   try with_reducible rfl
  case rest1 =>
  refine wpAnyH_take (i := 1) (v := ?v2) rfl (by kernel_rfl) (by kernel_rfl) (by kernel_rfl) (fun _ _ _ h => h) (Or.inl ⟨by rfl, ?hy2⟩) (by assumption) ?rest2
  case hy2 =>
   intro w hSw
   try dsimp only at hSw
   go_simp
   try with_reducible rfl
  case rest2 =>
  refine wpAnyH_take (i := 5) (v := ?v3) rfl (by kernel_rfl) (by kernel_rfl) (by kernel_rfl) (fun _ _ _ h => h) (Or.inl ⟨by rfl, ?hy3⟩) (by assumption) ?rest3
  case hy3 =>
   intro w hSw
   try dsimp only at hSw
   go_simp
   try with_reducible rfl
  case rest3 =>
  refine wpAnyH_take (i := 8) (v := ?v4) rfl (by kernel_rfl) (by kernel_rfl) (by kernel_rfl) (fun _ _ _ h => h) (Or.inl ⟨by rfl, ?hy4⟩) (by assumption) ?rest4
  case hy4 =>
   intro w hSw
   try dsimp only at hSw
   go_simp
   try with_reducible rfl
  case rest4 =>
  refine wpAnyH_take (i := 9) (v := ?v5) rfl (by kernel_rfl) (by kernel_rfl) (by kernel_rfl) (fun _ _ _ h => h) (Or.inl ⟨by rfl, ?hy5⟩) (by assumption) ?rest5
  case hy5 =>
   intro w hSw
   try dsimp only at hSw
   go_simp
   try with_reducible rfl
  case rest5 =>
  refine wpAnyH_ready (rs := [2]) (by kernel_rfl) (by simp) ?_
  refine AllReadyH.cons rfl (fun K hK => ?_) AllReadyH.nil
  go_simp
  go_at_call 168
  refine (HOF.out _).mono ?_
  rintro e w9 ⟨rfl, hw9⟩
  rw [hw9]
  clear hw9
  refine hK.out _ _ ?_ (fun hHeld => ?_)
  ·exact HXD.out
  clear hK K
  refine wpAnyH_take (i := 3) (v := .string P19) rfl (by kernel_rfl) (by kernel_rfl) (by kernel_rfl) (fun _ _ _ h => h) (Or.inl ⟨by rfl, ?hy6⟩) (by assumption) ?rest6
  case hy6 =>
   intro w hSw
   clear hSw
   go_simp
   rw [if_neg (by omega)]
   rw [HP19.out]
  case rest6 =>
  refine wpAnyH_take (i := 4) (v := .string P20) rfl (by kernel_rfl) (by kernel_rfl) (by kernel_rfl) (fun _ _ _ h => h) (Or.inl ⟨by rfl, ?hy7⟩) (by assumption) ?rest7
  case hy7 =>
   intro w hSw
   clear hSw
   go_simp
   rw [if_neg (by omega)]
   rw [HP20.out]
  case rest7 =>
  refine wpAnyH_take (i := 6) (v := .string P22) rfl (by kernel_rfl) (by kernel_rfl) (by kernel_rfl) (fun _ _ _ h => h) (Or.inl ⟨by rfl, ?hy8⟩) (by assumption) ?rest8
  case hy8 =>
   intro w hSw
   clear hSw
   go_simp
   rw [if_neg (by omega)]
   rw [HP22.out]
  case rest8 =>
  refine wpAnyH_take (i := 7) (v := .string P23) rfl (by kernel_rfl) (by kernel_rfl) (by kernel_rfl) (fun _ _ _ h => h) (Or.inl ⟨by rfl, ?hy9⟩) (by assumption) ?rest9
  case hy9 =>
   intro w hSw
   clear hSw
   go_simp
   rw [if_neg (by omega)]
   rw [HP23.out]
  case rest9 =>
  refine wpAnyH_take (i := 10) (v := .string P26) rfl (by kernel_rfl) (by kernel_rfl) (by kernel_rfl) (fun _ _ _ h => h) (Or.inl ⟨by rfl, ?hy10⟩) (by assumption) ?rest10
  case hy10 =>
   intro w hSw
   clear hSw
   go_simp
   rw [if_neg (by omega)]
   rw [HP26.out]
  case rest10 =>
  refine wpAnyH_take (i := 11) (v := ?v11) rfl (by kernel_rfl) (by kernel_rfl) (by kernel_rfl) (fun _ _ _ h => h) (Or.inl ⟨by rfl, ?hy11⟩) (by assumption) ?rest11
  case hy11 =>
   intro w hSw
   try dsimp only at hSw
   go_simp
   try with_reducible rfl
  case rest11 =>
  refine wpAnyH_done (by kernel_rfl) ?_ _
  go_wp2_with fail
  go_meet
  exact ⟨rfl, (Below.refl _ _).drew⟩
 case rest =>
 obtain ⟨rfl, HBC⟩ := hcut
 generalize wc = W3 at *
 have y4 := keepCell HBC.out x4
 have y5 := keepCell HBC.out x5
 have y6 := keepCell HBC.out x6
 have y7 := keepCell HBC.out x7
 have y8 := keepCell HBC.out x8
 have y9 := keepCell HBC.out x9
 have y10 := keepCell HBC.out x10
 have y11 := keepCell HBC.out x11
 clear x0 x1 x2 x3 x4 x5 x6 x7 x8 x9 x10 x11
 cases la with
 | true =>
  have HEND : Hid (P26 ++ (⟨#[10]⟩ : ByteArray) = R) := Lib.hid (bs_inj (by
   rw [HR.out, bs_app, ← HP26.out, ← HP23.out, ← HP22.out, ← HP20.out, ← HP19.out]
   simp only [bs_app, HOT.out, HRT.out]
   simp [lineW, joinT, bsO]))
  go_wp2_with fail
  go_ret
  exact ⟨congrArg (fun x => Ending.returned (.string x)) HEND.out, keepBelow HBX.out HBC.out⟩
 | false =>
 have sy := (HSZ.out.2 rfl).1
 have sm := (HSZ.out.2 rfl).2.1
 have sd := (HSZ.out.2 rfl).2.2.1
 have sk := (HSZ.out.2 rfl).2.2.2
 have HDY2 := Lib.hid (HDY.out rfl)
 go_upto_region 9 with fail
 obtain ⟨b5, hb5⟩ : ∃ b, W3.heap.size = b := ⟨_, rfl⟩
 obtain ⟨Y, hY⟩ : ∃ X, W3.alloc (.cells #[.int .i64 yr, .int .i64 mo, .int .i64 k, .int .i64 v, .int .i64 d, .int .i64 at_, .int .i64 ck] 100) = X := ⟨_, rfl⟩
 have HBY : Hid (Below W3.heap.size W3 Y) := Lib.hid (by rw [← hY]; exact (Below.refl _ _).alloc (Nat.le_refl _) _)
 have HY1 : Hid (Blk Y b5 #[.int .i64 yr, .int .i64 mo, .int .i64 k, .int .i64 v, .int .i64 d, .int .i64 at_, .int .i64 ck] 100) := Lib.hid (by rw [← hY, ← hb5]; exact Blk.new _ _ _)
 try rw [hY]
 try rw [hb5]
 clear hY hb5 y4 y5 y6 y7 y8 y9 y10 y11
 obtain ⟨P33, hP33⟩ : ∃ D : ByteArray, P26 ++ (⟨#[32, 117, 110, 116, 105, 108, 32]⟩ : ByteArray) = D := ⟨_, rfl⟩
 have HP33 := Lib.hid hP33
 have p33 : (P33.size : Int) ≤ 107 := by
  rw [← hP33, ByteArray.size_append]
  have : (⟨#[32, 117, 110, 116, 105, 108, 32]⟩ : ByteArray).size = 7 := rfl
  omega
 clear hP33
 obtain ⟨P37, hP37⟩ : ∃ D : ByteArray, P33 ++ YT = D := ⟨_, rfl⟩
 have HP37 := Lib.hid hP37
 have p37 : (P37.size : Int) ≤ 137 := by
  rw [← hP37, ByteArray.size_append]
  omega
 clear hP37
 obtain ⟨P38, hP38⟩ : ∃ D : ByteArray, P37 ++ (⟨#[32]⟩ : ByteArray) = D := ⟨_, rfl⟩
 have HP38 := Lib.hid hP38
 have p38 : (P38.size : Int) ≤ 138 := by
  rw [← hP38, ByteArray.size_append]
  have : (⟨#[32]⟩ : ByteArray).size = 1 := rfl
  omega
 clear hP38
 obtain ⟨P43, hP43⟩ : ∃ D : ByteArray, P38 ++ MT = D := ⟨_, rfl⟩
 have HP43 := Lib.hid hP43
 have p43 : (P43.size : Int) ≤ 168 := by
  rw [← hP43, ByteArray.size_append]
  omega
 clear hP43
 obtain ⟨P44, hP44⟩ : ∃ D : ByteArray, P43 ++ (⟨#[32]⟩ : ByteArray) = D := ⟨_, rfl⟩
 have HP44 := Lib.hid hP44
 have p44 : (P44.size : Int) ≤ 169 := by
  rw [← hP44, ByteArray.size_append]
  have : (⟨#[32]⟩ : ByteArray).size = 1 := rfl
  omega
 clear hP44
 obtain ⟨P48, hP48⟩ : ∃ D : ByteArray, P44 ++ DT = D := ⟨_, rfl⟩
 have HP48 := Lib.hid hP48
 have p48 : (P48.size : Int) ≤ 199 := by
  rw [← hP48, ByteArray.size_append]
  omega
 clear hP48
 obtain ⟨P49, hP49⟩ : ∃ D : ByteArray, P48 ++ (⟨#[32]⟩ : ByteArray) = D := ⟨_, rfl⟩
 have HP49 := Lib.hid hP49
 have p49 : (P49.size : Int) ≤ 200 := by
  rw [← hP49, ByteArray.size_append]
  have : (⟨#[32]⟩ : ByteArray).size = 1 := rfl
  omega
 clear hP49
 obtain ⟨P55, hP55⟩ : ∃ D : ByteArray, P49 ++ KT = D := ⟨_, rfl⟩
 have HP55 := Lib.hid hP55
 have p55 : (P55.size : Int) ≤ 230 := by
  rw [← hP55, ByteArray.size_append]
  omega
 clear hP55
 obtain ⟨P57, hP57⟩ : ∃ D : ByteArray, P55 ++ (⟨#[10]⟩ : ByteArray) = D := ⟨_, rfl⟩
 have HP57 := Lib.hid hP57
 have p57 : (P57.size : Int) ≤ 231 := by
  rw [← hP57, ByteArray.size_append]
  have : (⟨#[10]⟩ : ByteArray).size = 1 := rfl
  omega
 clear hP57
 have HEND : Hid (P57 = R) := Lib.hid (bs_inj (by
  rw [HR.out, ← HP57.out, ← HP55.out, ← HP49.out, ← HP48.out, ← HP44.out, ← HP43.out, ← HP38.out, ← HP37.out, ← HP33.out, ← HP26.out, ← HP23.out, ← HP22.out, ← HP20.out, ← HP19.out]
  simp only [bs_app, HOT.out, HRT.out, HYT.out, HMT.out, HDT.out, HKT.out]
  simp [lineW, joinT, bsO]))
 have HSK : Hid (∀ W, Below Y.heap.size Y W → W.cell? ⟨b5, 0, none⟩ = some (.int .i64 yr) ∧ W.cell? ⟨b5, 1, none⟩ = some (.int .i64 mo) ∧ W.cell? ⟨b5, 2, none⟩ = some (.int .i64 k) ∧ W.cell? ⟨b5, 3, none⟩ = some (.int .i64 v) ∧ W.cell? ⟨b5, 4, none⟩ = some (.int .i64 d) ∧ W.cell? ⟨b5, 5, none⟩ = some (.int .i64 at_) ∧ W.cell? ⟨b5, 6, none⟩ = some (.int .i64 ck)) := Lib.hid fun W hW => ⟨(HY1.out.below hW).cell (j := 0) rfl, (HY1.out.below hW).cell (j := 1) rfl, (HY1.out.below hW).cell (j := 2) rfl, (HY1.out.below hW).cell (j := 3) rfl, (HY1.out.below hW).cell (j := 4) rfl, (HY1.out.below hW).cell (j := 5) rfl, (HY1.out.below hW).cell (j := 6) rfl⟩
 have HBA : Hid (Below Y.heap.size Y Y.drew) := Lib.hid (Below.refl _ _).drew
 clear HSZ
 refine wp_region_held_drew (S := fun w' => w'.cell? ⟨b5, 0, none⟩ = some (.int .i64 yr) ∧ w'.cell? ⟨b5, 1, none⟩ = some (.int .i64 mo) ∧ w'.cell? ⟨b5, 2, none⟩ = some (.int .i64 k) ∧ w'.cell? ⟨b5, 3, none⟩ = some (.int .i64 v) ∧ w'.cell? ⟨b5, 4, none⟩ = some (.int .i64 d) ∧ w'.cell? ⟨b5, 5, none⟩ = some (.int .i64 at_) ∧ w'.cell? ⟨b5, 6, none⟩ = some (.int .i64 ck)) (by kernel_rfl) ?_ (fun hHeld => ?_)
 ·exact HSK.out _ HBA.out
 refine wpAnyH_take (i := 0) (v := ?v12) rfl (by kernel_rfl) (by kernel_rfl) (by kernel_rfl) (fun _ _ _ h => h) (Or.inl ⟨by rfl, ?hy12⟩) (by assumption) ?rest12
 case hy12 =>
  intro w hSw
  try dsimp only at hSw
  go_simp
  try with_reducible rfl
 case rest12 =>
 refine wpAnyH_take (i := 1) (v := .string P33) rfl (by kernel_rfl) (by kernel_rfl) (by kernel_rfl) (fun _ _ _ h => h) (Or.inl ⟨by rfl, ?hy13⟩) (by assumption) ?rest13
 case hy13 =>
  intro w hSw
  clear hSw
  go_simp
  rw [if_neg (by omega)]
  rw [HP33.out]
 case rest13 =>
 refine wpAnyH_take (i := 2) (v := ?v14) rfl (by kernel_rfl) (by kernel_rfl) (by kernel_rfl) (fun _ _ _ h => h) (Or.inl ⟨by rfl, ?hy14⟩) (by assumption) ?rest14
 case hy14 =>
  intro w hSw
  try dsimp only at hSw
  go_simp
  try with_reducible rfl
 case rest14 =>
 refine wpAnyH_take (i := 3) (v := ?v15) rfl (by kernel_rfl) (by kernel_rfl) (by kernel_rfl) (fun _ _ _ h => h) (Or.inl ⟨by rfl, ?hy15⟩) (by assumption) ?rest15
 case hy15 =>
  intro w hSw
  try dsimp only at hSw
  go_simp
  try with_reducible rfl
 case rest15 =>
 refine wpAnyH_take (i := 8) (v := ?v16) rfl (by kernel_rfl) (by kernel_rfl) (by kernel_rfl) (fun _ _ _ h => h) (Or.inl ⟨by rfl, ?hy16⟩) (by assumption) ?rest16
 case hy16 =>
  intro w hSw
  try dsimp only at hSw
  go_simp
  try with_reducible rfl
 case rest16 =>
 refine wpAnyH_take (i := 9) (v := ?v17) rfl (by kernel_rfl) (by kernel_rfl) (by kernel_rfl) (fun _ _ _ h => h) (Or.inl ⟨by rfl, ?hy17⟩) (by assumption) ?rest17
 case hy17 =>
  intro w hSw
  try dsimp only at hSw
  go_simp
  try with_reducible rfl
 case rest17 =>
 refine wpAnyH_take (i := 13) (v := ?v18) rfl (by kernel_rfl) (by kernel_rfl) (by kernel_rfl) (fun _ _ _ h => h) (Or.inl ⟨by rfl, ?hy18⟩) (by assumption) ?rest18
 case hy18 =>
  intro w hSw
  try dsimp only at hSw
  go_simp
  try with_reducible rfl
 case rest18 =>
 refine wpAnyH_take (i := 14) (v := ?v19) rfl (by kernel_rfl) (by kernel_rfl) (by kernel_rfl) (fun _ _ _ h => h) (Or.inl ⟨by rfl, ?hy19⟩) (by assumption) ?rest19
 case hy19 =>
  intro w hSw
  try dsimp only at hSw
  go_simp
  try with_reducible rfl
 case rest19 =>
 refine wpAnyH_take (i := 18) (v := ?v20) rfl (by kernel_rfl) (by kernel_rfl) (by kernel_rfl) (fun _ _ _ h => h) (Or.inl ⟨by rfl, ?hy20⟩) (by assumption) ?rest20
 case hy20 =>
  intro w hSw
  try dsimp only at hSw
  go_simp
  try with_reducible rfl
 case rest20 =>
 refine wpAnyH_take (i := 19) (v := ?v21) rfl (by kernel_rfl) (by kernel_rfl) (by kernel_rfl) (fun _ _ _ h => h) (Or.inl ⟨by rfl, ?hy21⟩) (by assumption) ?rest21
 case hy21 =>
  intro w hSw
  try dsimp only at hSw
  go_simp
  try with_reducible rfl
 case rest21 =>
 refine wpAnyH_take (i := 20) (v := ?v22) rfl (by kernel_rfl) (by kernel_rfl) (by kernel_rfl) (fun _ _ _ h => h) (Or.inl ⟨by rfl, ?hy22⟩) (by assumption) ?rest22
 case hy22 =>
  intro w hSw
  try dsimp only at hSw
  go_simp
  try with_reducible rfl
 case rest22 =>
 refine wpAnyH_take (i := 21) (v := ?v23) rfl (by kernel_rfl) (by kernel_rfl) (by kernel_rfl) (fun _ _ _ h => h) (Or.inl ⟨by rfl, ?hy23⟩) (by assumption) ?rest23
 case hy23 =>
  intro w hSw
  try dsimp only at hSw
  go_simp
  try with_reducible rfl
 case rest23 =>
 refine wpAnyH_ready (rs := [4]) (by kernel_rfl) (by simp) ?_
 refine AllReadyH.cons rfl (fun K hK => ?_) AllReadyH.nil
 go_simp
 go_at_call 99
 refine (HDY2.out _).mono ?_
 rintro e w4 ⟨rfl, hb4⟩
 have HBB := Lib.hid (keepBelow HBA.out hb4)
 clear hb4
 refine hK.out _ _ ?_ (fun hHeld => ?_)
 ·exact HSK.out _ HBB.out
 clear hK K
 refine wpAnyH_take (i := 5) (v := .string P37) rfl (by kernel_rfl) (by kernel_rfl) (by kernel_rfl) (fun _ _ _ h => h) (Or.inl ⟨by rfl, ?hy24⟩) (by assumption) ?rest24
 case hy24 =>
  intro w hSw
  clear hSw
  go_simp
  rw [if_neg (by omega)]
  rw [HP37.out]
 case rest24 =>
 refine wpAnyH_take (i := 6) (v := .string P38) rfl (by kernel_rfl) (by kernel_rfl) (by kernel_rfl) (fun _ _ _ h => h) (Or.inl ⟨by rfl, ?hy25⟩) (by assumption) ?rest25
 case hy25 =>
  intro w hSw
  clear hSw
  go_simp
  rw [if_neg (by omega)]
  rw [HP38.out]
 case rest25 =>
 refine wpAnyH_ready (rs := [7]) (by kernel_rfl) (by simp) ?_
 refine AllReadyH.cons rfl (fun K hK => ?_) AllReadyH.nil
 go_simp
 go_at_call 166
 refine (months18_any _).mono ?_
 rintro e w5 ⟨⟨u, rfl, hv⟩, hb5⟩
 have HVR := Lib.hid hv
 have HBD := Lib.hid (keepBelow HBB.out hb5)
 clear hb5
 obtain ⟨av, cv, rfl⟩ := hv.form
 clear hv
 refine hK.out _ _ ?_ (fun hHeld => ?_)
 ·exact HSK.out _ HBD.out
 clear hK K
 refine wpAnyH_ready (rs := [10]) (by kernel_rfl) (by simp) ?_
 refine AllReadyH.cons rfl (fun K hK => ?_) AllReadyH.nil
 go_simp
 go_at_call 98
 refine (HGE.out _ _ HVR.out).mono ?_
 rintro e w6 ⟨rfl, hw6⟩
 rw [hw6]
 clear hw6
 refine hK.out _ _ ?_ (fun hHeld => ?_)
 ·exact HSK.out _ HBD.out
 clear hK K
 refine wpAnyH_take (i := 11) (v := .string P43) rfl (by kernel_rfl) (by kernel_rfl) (by kernel_rfl) (fun _ _ _ h => h) (Or.inl ⟨by rfl, ?hy26⟩) (by assumption) ?rest26
 case hy26 =>
  intro w hSw
  clear hSw
  go_simp
  rw [if_neg (by omega)]
  rw [HP43.out]
 case rest26 =>
 refine wpAnyH_take (i := 12) (v := .string P44) rfl (by kernel_rfl) (by kernel_rfl) (by kernel_rfl) (fun _ _ _ h => h) (Or.inl ⟨by rfl, ?hy27⟩) (by assumption) ?rest27
 case hy27 =>
  intro w hSw
  clear hSw
  go_simp
  rw [if_neg (by omega)]
  rw [HP44.out]
 case rest27 =>
 refine wpAnyH_ready (rs := [15]) (by kernel_rfl) (by simp) ?_
 refine AllReadyH.cons rfl (fun K hK => ?_) AllReadyH.nil
 go_simp
 go_at_call 31
 refine (HON.out _).mono ?_
 rintro e w7 ⟨rfl, hb7⟩
 have HBE := Lib.hid (keepBelow HBD.out hb7)
 clear hb7
 refine hK.out _ _ ?_ (fun hHeld => ?_)
 ·exact HSK.out _ HBE.out
 clear hK K
 refine wpAnyH_take (i := 16) (v := .string P48) rfl (by kernel_rfl) (by kernel_rfl) (by kernel_rfl) (fun _ _ _ h => h) (Or.inl ⟨by rfl, ?hy28⟩) (by assumption) ?rest28
 case hy28 =>
  intro w hSw
  clear hSw
  go_simp
  rw [if_neg (by omega)]
  rw [HP48.out]
 case rest28 =>
 refine wpAnyH_take (i := 17) (v := .string P49) rfl (by kernel_rfl) (by kernel_rfl) (by kernel_rfl) (fun _ _ _ h => h) (Or.inl ⟨by rfl, ?hy29⟩) (by assumption) ?rest29
 case hy29 =>
  intro w hSw
  clear hSw
  go_simp
  rw [if_neg (by omega)]
  rw [HP49.out]
 case rest29 =>
 refine wpAnyH_ready (rs := [22]) (by kernel_rfl) (by simp) ?_
 refine AllReadyH.cons rfl (fun K hK => ?_) AllReadyH.nil
 go_simp
 go_at_call 167
 refine (HCL.out _).mono ?_
 rintro e w8 ⟨rfl, hw8⟩
 rw [hw8]
 clear hw8
 refine hK.out _ _ ?_ (fun hHeld => ?_)
 ·exact HSK.out _ HBE.out
 clear hK K
 refine wpAnyH_take (i := 23) (v := .string P55) rfl (by kernel_rfl) (by kernel_rfl) (by kernel_rfl) (fun _ _ _ h => h) (Or.inl ⟨by rfl, ?hy30⟩) (by assumption) ?rest30
 case hy30 =>
  intro w hSw
  clear hSw
  go_simp
  rw [if_neg (by omega)]
  rw [HP55.out]
 case rest30 =>
 refine wpAnyH_take (i := 24) (v := ?v31) rfl (by kernel_rfl) (by kernel_rfl) (by kernel_rfl) (fun _ _ _ h => h) (Or.inl ⟨by rfl, ?hy31⟩) (by assumption) ?rest31
 case hy31 =>
  intro w hSw
  try dsimp only at hSw
  go_simp
  try with_reducible rfl
 case rest31 =>
 refine wpAnyH_done (by kernel_rfl) ?_ _
 go_wp2_with fail
 go_ret
 exact ⟨congrArg (fun x => Ending.returned (.string x)) (HP57.out.trans HEND.out), keepBelow HBX.out (keepBelow HBC.out (keepBelow HBY.out HBE.out))⟩

end Go.Proofs.YtlbglinpgjlbkaaGreatDoor
