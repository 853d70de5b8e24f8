import Derived.Test.YtlbglinpgjlbkaaGreatDoorWkJ3
import Derived.Test.YtlbglinpgjlbkaaGreatDoorWkQq
import Derived.Test.YtlbglinpgjlbkaaGreatDoorWkQo
/- Zone texts: the program's Text. Printed by gen_j4.py. -/
namespace Go.Proofs.YtlbglinpgjlbkaaGreatDoor
open Go.RowKit Wk

theorem ret_tt {A B : ByteArray} {e f : Int} (h : bsO B = bsO A) (he : f = e) : Ending.returned (.tuple #[.string A, .int .i64 e]) = .returned (.tuple #[.string B, .int .i64 f]) := by rw [he, bs_inj h]
theorem flatT_app (a b : List (List Bs)) : flatT (a ++ b) = flatT a ++ flatT b := by unfold flatT; rw [List.flatMap_append]
theorem flatT_one (ws : List Bs) : flatT [ws] = joinT ws ++ [10] := by unfold flatT; simp
theorem take_next {α : Type} {L : List α} {i : Nat} (d : α) (h : i < L.length) : L.take (i + 1) = L.take i ++ [L.getD i d] := by
 rw [List.take_succ_eq_append_getElem h, List.getD_eq_getElem?_getD, List.getElem?_eq_getElem h]
 rfl
theorem flat_next {α : Type} (f : α → List Bs) {L : List α} {i : Nat} (d : α) (h : i < L.length) : flatT ((L.take (i + 1)).map f) = flatT ((L.take i).map f) ++ (joinT (f (L.getD i d)) ++ [10]) := by
 rw [take_next d h, List.map_append, flatT_app]
 simp only [List.map_cons, List.map_nil]
 rw [flatT_one]
theorem ruleL_len {r : RuT} (hr : ruB r = true) : (joinT (ruleW r) ++ [10]).length ≤ 300 := by
 have h := joinT_len (ruleW_len hr)
 have : (ruleW r).length = 9 := rfl
 rw [List.length_append]
 simp only [List.length_cons, List.length_nil]
 omega
theorem lineL_len {l : LiT} (hl : liB l = true) : (joinT (lineW l) ++ [10]).length ≤ 300 := by
 have h := joinT_len (lineW_len hl)
 have : (lineW l).length ≤ 9 := by
  cases hb : l.la with
  | true => rw [lineW_last hb]; exact Nat.le_of_ble_eq_true rfl
  | false => rw [lineW_more hb]; exact Nat.le_refl _
 rw [List.length_append]
 simp only [List.length_cons, List.length_nil]
 have : (lineW l).length * 31 ≤ 9 * 31 := Nat.mul_le_mul_right _ this
 omega
theorem zk_next {L : List ZkT} {j : Nat} (h : j < L.length) : flatT ((L.take (j + 1)).flatMap (fun z : ZkT => zoneW z.1 :: z.1.li.map lineW)) = flatT ((L.take j).flatMap (fun z : ZkT => zoneW z.1 :: z.1.li.map lineW)) ++ (joinT (zoneW (L.getD j zk0).1) ++ [10]) ++ flatT ((L.getD j zk0).1.li.map lineW) := by
 rw [take_next zk0 h, List.flatMap_append, flatT_app]
 simp only [List.flatMap_cons, List.flatMap_nil, List.append_nil]
 rw [show ∀ (a : List Bs) (b : List (List Bs)), a :: b = [a] ++ b from fun _ _ => rfl, flatT_app, flatT_one]
 simp only [List.append_assoc]
set_option maxRecDepth 100000 in
set_option maxHeartbeats 8000000 in
theorem text_any (rv zv lv : Value) (S : SrT) (Z : List ZkT) (w : World) (hs : RdSr w rv zv lv S Z) (hz : SzS S) (hg : Glob w) (hT : TabP w) (hcz : CapV zv) (hcl : CapV lv) :
  Calls Tryz.prog 33 #[.agg #[rv, zv, lv]] w fun e w' => e = .returned (.tuple #[.string ⟨(textM S).1.toArray⟩, .int .i64 (textM S).2]) ∧ Below w.heap.size w w' := by
 have HT := Lib.hid hT
 have HS := Lib.hid hs
 have HVA : Hid (∀ W, Below w.heap.size w W → Calls Tryz.prog 35 #[.agg #[rv, zv, lv]] W fun e w' => e = .returned (.bool (validB S)) ∧ Below W.heap.size W w') := Lib.hid fun W hW => valid_any rv zv lv S Z W (hs.below hW) hz (hg.below hW) hcz hcl
 have HVP : Hid (validB S = true → S.ru.length ≤ 100 ∧ Z.length ≤ 30 ∧ S.lk.length ≤ 30 ∧ (∀ r ∈ S.ru, ruB r = true) ∧ (∀ z ∈ Z, zoB z.1 = true) ∧ (∀ x ∈ S.lk, nameB x.nm = true ∧ nameB x.zo = true)) := Lib.hid fun h => by
  obtain ⟨h1, h2, h3, h4, h5, -⟩ := valid_parts h
  rw [← hs.zs, List.length_map] at h2
  exact ⟨h1, by omega, by omega, h3, fun z hz => h4 z.1 (by rw [← hs.zs]; exact List.mem_map_of_mem hz), h5⟩
 have HWT : Hid (wordsT S = S.ru.map ruleW ++ Z.flatMap (fun z : ZkT => zoneW z.1 :: z.1.li.map lineW) ++ S.lk.map linkW) := Lib.hid (by
  unfold wordsT
  rw [← hs.zs, List.flatMap_map])
 have HTM : Hid (textM S = if validB S = false then ([], 1) else if 65536 < (flatT (wordsT S)).length then ([], 5) else (flatT (wordsT S), 0)) := Lib.hid rfl
 obtain ⟨tm, htm⟩ : ∃ t, textM S = t := ⟨_, rfl⟩
 rw [htm] at HTM ⊢
 obtain ⟨tt, te⟩ := tm
 obtain ⟨TT, rfl⟩ := bs_of tt
 show Calls _ _ _ _ fun e w' => e = .returned (.tuple #[.string TT, .int .i64 te]) ∧ Below w.heap.size w w'
 obtain ⟨q, hq⟩ : ∃ q, validB S = q := ⟨_, rfl⟩
 rw [hq] at HVA HVP HTM
 obtain ⟨ra, rc, rfl⟩ := hs.ru.form
 obtain ⟨za, zc, rfl⟩ := hs.zo.row.form
 obtain ⟨la, lc, rfl⟩ := hs.lk.form
 clear hs hz hg hT hcz hcl htm hq
 go_enter Tryz.func33, Tryz.ntmps33
 go_upto_region 1 with fail
 obtain ⟨bx, hbx⟩ : ∃ b, w.heap.size = b := ⟨_, rfl⟩
 obtain ⟨X, hX⟩ : ∃ Y, w.alloc (.cells #[.slice ra S.ru.length rc, .slice za Z.length zc, .slice la S.lk.length lc] 27) = Y := ⟨_, rfl⟩
 have HBX : Hid (Below w.heap.size w X) := Lib.hid (by rw [← hX]; exact (Below.refl _ _).alloc (Nat.le_refl _) _)
 have HXK : Hid (Blk X bx #[.slice ra S.ru.length rc, .slice za Z.length zc, .slice la S.lk.length lc] 27) := Lib.hid (by rw [← hX, ← hbx]; exact Blk.new _ _ _)
 try rw [hX]
 try rw [hbx]
 clear hX hbx
 have x0 := HXK.out.cell (j := 0) rfl
 have x1 := HXK.out.cell (j := 1) rfl
 have x2 := HXK.out.cell (j := 2) rfl
 cases q with
 | false =>
  obtain ⟨hT1, hT2⟩ : bsO TT = [] ∧ te = 1 := by
   have q := HTM.out
   rw [if_pos rfl] at q
   injection q with q1 q2
   exact ⟨q1, q2⟩
  have HNO := Lib.hid (ret_tt (A := ⟨#[]⟩) hT1 hT2)
  clear hT1 hT2
  go_wp2_with (first | (go_at_call 35; refine (HVA.out _ HBX.out).mono ?_; rintro e w2 ⟨rfl, hb2⟩) | fail)
  go_ret2
  exact ⟨HNO.out, keepBelow HBX.out hb2⟩
 | true =>
 have HTM2 : Hid ((bsO TT, te) = if 65536 < (flatT (wordsT S)).length then ([], 5) else (flatT (wordsT S), 0)) := Lib.hid (by rw [HTM.out, if_neg (by simp)])
 have HV := Lib.hid (HVP.out rfl)
 clear HTM HVP
 go_upto_region 3 with (first | (go_at_call 35; refine (HVA.out _ HBX.out).mono ?_; rintro e w2 ⟨rfl, hb2⟩; obtain ⟨V, hV⟩ : ∃ W, w2 = W := ⟨_, rfl⟩; rw [hV] at hb2 ⊢; clear hV; have HBV := Lib.hid (keepBelow HBX.out hb2); have HXV := Lib.hid (HXK.out.below hb2); clear hb2) | fail)
 clear x0 x1 x2 HXK HVA
 go_upto_region 4 with fail
 obtain ⟨b4, hb4⟩ : ∃ b, V.heap.size = b := ⟨_, rfl⟩
 obtain ⟨Y0, hY0⟩ : ∃ Y, V.alloc (.cells #[.pointer none, .slice none 0 0] 145) = Y := ⟨_, rfl⟩
 have HB0 : Hid (Bld V b4 [] Y0) := Lib.hid (by rw [← hY0, ← hb4]; exact Bld.new (Below.refl _ _))
 have hbx4 : bx ≠ b4 := by have := HXV.out.lt; omega
 try rw [hY0]
 try rw [hb4]
 clear hY0 hb4
 have HXB : Hid (∀ W, Below V.heap.size V W → W.cell? ⟨bx, 0, none⟩ = some (.slice ra S.ru.length rc) ∧ W.cell? ⟨bx, 1, none⟩ = some (.slice za Z.length zc) ∧ W.cell? ⟨bx, 2, none⟩ = some (.slice la S.lk.length lc)) := Lib.hid fun W hW => ⟨(HXV.out.below hW).cell (j := 0) rfl, (HXV.out.below hW).cell (j := 1) rfl, (HXV.out.below hW).cell (j := 2) rfl⟩
 have HRT : Hid (∀ r ∈ S.ru, ∀ W, Below V.heap.size V W → Calls Tryz.prog 101 #[ruV r] W fun e w' => e = .returned (.string ⟨(joinT (ruleW r) ++ [10]).toArray⟩) ∧ Below W.heap.size W w') := Lib.hid fun r hr W hW => ruleText_any r (HV.out.2.2.2.1 r hr) W (HT.out.below (keepBelow HBV.out hW))
 have HLT : Hid (∀ z ∈ Z, ∀ l ∈ z.1.li, liB l = true ∧ ∀ W, Below V.heap.size V W → Calls Tryz.prog 102 #[liV l] W fun e w' => e = .returned (.string ⟨(joinT (lineW l) ++ [10]).toArray⟩) ∧ Below W.heap.size W w') := Lib.hid fun z hz l hl => by
  obtain ⟨-, -, -, h⟩ := zo_parts (HV.out.2.2.2.2.1 z hz)
  obtain ⟨i, hi, e⟩ := List.mem_iff_getElem.1 hl
  have h1 := (h i hi).1
  rw [e] at h1
  exact ⟨h1, fun W hW => lineText_any l h1 W (HT.out.below (keepBelow HBV.out hW))⟩
 have y0 := (HXB.out _ HB0.out.2).1
 go_upto_region 5 with fail
 clear y0
 go_loopw [6, 19] (fun _ u wr => ∃ i : Nat, u = .int .i64 i ∧ i ≤ S.ru.length ∧ Hid (∃ l, l = flatT ((S.ru.take i).map ruleW) ∧ l.length ≤ 300 * i ∧ Bld V b4 l wr)) (fun _ u _ => S.ru.length - (intOf u).toNat)
 case atStart => exact ⟨0, rfl, Nat.zero_le _, ⟨_, rfl, Nat.zero_le _, HB0.out⟩⟩
 case round =>
  obtain ⟨i, rfl, hi, HL⟩ := hrel
  clear HB0
  obtain ⟨l, hl, hll, hbl⟩ := HL.out
  have HLE := Lib.hid hl
  have HLL := Lib.hid hll
  have HBL := Lib.hid hbl
  clear HL hl hll hbl
  by_cases hlt : i < S.ru.length
  ·obtain ⟨al', cl', ea, _, hc⟩ := HS.out.ru.below (keepBelow HBV.out HBL.out.2)
   cases ea
   obtain ⟨b, o, rfl, hcc⟩ := hc i hlt
   have HNX := Lib.hid (flat_next ruleW (L := S.ru) ru0 hlt)
   obtain ⟨x, hx⟩ : ∃ x, S.ru.getD i ru0 = x := ⟨_, rfl⟩
   have hxm : x ∈ S.ru := by rw [← hx]; exact getD_mem hlt
   have HRX := Lib.hid (HRT.out x hxm)
   have HXL := Lib.hid (ruleL_len (HV.out.2.2.2.1 x hxm))
   rw [hx] at hcc HNX
   clear hc hx hxm
   obtain ⟨tx, htx⟩ : ∃ t, joinT (ruleW x) ++ [10] = t := ⟨_, rfl⟩
   rw [htx] at HRX HXL HNX
   obtain ⟨TX, rfl⟩ := bs_of tx
   have hts : (TX.size : Int) ≤ 300 := by have := HXL.out; rw [bs_len] at this; omega
   clear htx HXL
   obtain ⟨nm, fr, to_, mo, ⟨k, v, d⟩, at_, ck, sv, le⟩ := x
   obtain ⟨NM, rfl⟩ := bs_of nm
   obtain ⟨LE, rfl⟩ := bs_of le
   have HRX2 : Hid (∀ W, Below V.heap.size V W → Calls Tryz.prog 101 #[.agg #[.string NM, .int .i64 fr, .int .i64 to_, .int .i64 mo, .int .i64 k, .int .i64 v, .int .i64 d, .int .i64 at_, .int .i64 ck, .int .i64 sv, .string LE]] W fun e w' => e = .returned (.string TX) ∧ Below W.heap.size W w') := HRX
   clear HRX
   have e0 : wr.cell? ⟨b, o + i * 11, none⟩ = some (.string NM) := hcc 0 _ (by decide) rfl
   have e1 : wr.cell? ⟨b, o + i * 11 + 1, none⟩ = some (.int .i64 fr) := hcc 1 _ (by decide) rfl
   have e2 : wr.cell? ⟨b, o + i * 11 + 2, none⟩ = some (.int .i64 to_) := hcc 2 _ (by decide) rfl
   have e3 : wr.cell? ⟨b, o + i * 11 + 3, none⟩ = some (.int .i64 mo) := hcc 3 _ (by decide) rfl
   have e4 : wr.cell? ⟨b, o + i * 11 + 4, none⟩ = some (.int .i64 k) := hcc 4 _ (by decide) rfl
   have e5 : wr.cell? ⟨b, o + i * 11 + 5, none⟩ = some (.int .i64 v) := hcc 5 _ (by decide) rfl
   have e6 : wr.cell? ⟨b, o + i * 11 + 6, none⟩ = some (.int .i64 d) := hcc 6 _ (by decide) rfl
   have e7 : wr.cell? ⟨b, o + i * 11 + 7, none⟩ = some (.int .i64 at_) := hcc 7 _ (by decide) rfl
   have e8 : wr.cell? ⟨b, o + i * 11 + 8, none⟩ = some (.int .i64 ck) := hcc 8 _ (by decide) rfl
   have e9 : wr.cell? ⟨b, o + i * 11 + 9, none⟩ = some (.int .i64 sv) := hcc 9 _ (by decide) rfl
   have e10 : wr.cell? ⟨b, o + i * 11 + 10, none⟩ = some (.string LE) := hcc 10 _ (by decide) rfl
   clear hcc
   have hii : (i : Int) < (S.ru.length : Int) := by omega
   have hir : S.ru.length ≤ 100 := HV.out.1
   go_upto_region 7 with fail
   obtain ⟨b6, hb6⟩ : ∃ b, wr.heap.size = b := ⟨_, rfl⟩
   obtain ⟨Y, hY⟩ : ∃ Y, wr.alloc (.cells #[.string NM, .int .i64 fr, .int .i64 to_, .int .i64 mo, .int .i64 k, .int .i64 v, .int .i64 d, .int .i64 at_, .int .i64 ck, .int .i64 sv, .string LE] 41) = Y := ⟨_, rfl⟩
   have HBY : Hid (Below wr.heap.size wr Y) := Lib.hid (by rw [← hY]; exact (Below.refl _ _).alloc (Nat.le_refl _) _)
   have HK : Hid (Blk Y b6 #[.string NM, .int .i64 fr, .int .i64 to_, .int .i64 mo, .int .i64 k, .int .i64 v, .int .i64 d, .int .i64 at_, .int .i64 ck, .int .i64 sv, .string LE] 41) := Lib.hid (by rw [← hY, ← hb6]; exact Blk.new _ _ _)
   try rw [hY]
   try rw [hb6]
   clear hY hb6
   clear e0 e1 e2 e3 e4 e5 e6 e7 e8 e9 e10
   have HBLY := Lib.hid (HBL.out.below HBY.out)
   have u0 := HK.out.cell (j := 0) rfl
   have u1 := HK.out.cell (j := 1) rfl
   have u2 := HK.out.cell (j := 2) rfl
   have u3 := HK.out.cell (j := 3) rfl
   have u4 := HK.out.cell (j := 4) rfl
   have u5 := HK.out.cell (j := 5) rfl
   have u6 := HK.out.cell (j := 6) rfl
   have u7 := HK.out.cell (j := 7) rfl
   have u8 := HK.out.cell (j := 8) rfl
   have u9 := HK.out.cell (j := 9) rfl
   have u10 := HK.out.cell (j := 10) rfl
   go_wp2_with (first
    | (go_at_call 101; refine (HRX2.out _ HBLY.out.2).mono ?_; rintro e w7 ⟨rfl, hb7⟩; obtain ⟨W7, hW7⟩ : ∃ W, w7 = W := ⟨_, rfl⟩; rw [hW7] at hb7 ⊢; clear hW7; have HBL7 := Lib.hid (HBLY.out.below hb7); clear hb7)
    | (go_at_call 100; refine (ws_any HBL7.out TX (by have := HLL.out; omega)).mono ?_; rintro e w8 ⟨rfl, hb8, hk8⟩)
    | fail)
   go_roundw
   case rel => exact ⟨i + 1, by go_num, hlt, ⟨_, by rw [HNX.out, ← HLE.out], by have := HLL.out; rw [List.length_append, bs_len]; omega, hb8⟩⟩
   case measure => simp [intOf]; omega
  ·obtain rfl : i = S.ru.length := by omega
   have HLE1 : Hid (l = flatT (S.ru.map ruleW)) := Lib.hid (by rw [HLE.out, List.take_length])
   have HLL1 : Hid (l.length ≤ 30000) := Lib.hid (by have := HLL.out; have := HV.out.1; omega)
   have y1 := (HXB.out _ HBL.out.2).2.1
   clear HLE HLL hi hlt HRT
   go_upto_region 10 with fail
   clear y1
   generalize wr = W1 at *
   go_loopw [8, 10, 30] (fun _ _ u wr => ∃ j : Nat, u = .int .i64 j ∧ j ≤ Z.length ∧ Hid (∃ l2, l2 = flatT (S.ru.map ruleW) ++ flatT ((Z.take j).flatMap (fun z : ZkT => zoneW z.1 :: z.1.li.map lineW)) ∧ l2.length ≤ 30000 + 31000 * j ∧ Bld V b4 l2 wr)) (fun _ _ u _ => Z.length - (intOf u).toNat)
   case atStart => exact ⟨0, rfl, Nat.zero_le _, ⟨_, by rw [List.take_zero, ← HLE1.out]; exact (List.append_nil l).symm, by have := HLL1.out; omega, HBL.out⟩⟩
   case round =>
    obtain ⟨j, rfl, hj, HL⟩ := hrel
    obtain ⟨l2, hl, hll, hbl⟩ := HL.out
    have HLE := Lib.hid hl
    have HLL := Lib.hid hll
    have HBL2 := Lib.hid hbl
    clear HL hl hll hbl
    by_cases hlt : j < Z.length
    ·have HZW := HS.out.zo.below (keepBelow HBV.out HBL2.out.2)
     obtain ⟨al', cl', ea, _, hc⟩ := HZW.row
     cases ea
     obtain ⟨b, o, rfl, hcc⟩ := hc j hlt
     have HNX := Lib.hid (zk_next hlt)
     have hli := HS.out.zo.li j hlt
     obtain ⟨x, hx⟩ : ∃ x, Z.getD j zk0 = x := ⟨_, rfl⟩
     have hxm : x ∈ Z := by rw [← hx]; exact getD_mem hlt
     have HLX := Lib.hid (HLT.out x hxm)
     have HZP := Lib.hid (zo_parts (HV.out.2.2.2.2.1 x hxm))
     rw [hx] at hcc HNX hli
     clear hc hx hxm HZW
     obtain ⟨⟨nm, li⟩, lv2⟩ := x
     obtain ⟨NM, rfl⟩ := bs_of nm
     have hns : (NM.size : Int) ≤ 30 := by have := (name_wd HZP.out.1).2; rw [bs_len] at this; omega
     simp only at hli
     obtain ⟨a2, n2, rfl⟩ := hli.form
     have HLI := Lib.hid hli
     have hl1 : li.length ≤ 100 := HZP.out.2.2.1
     clear hli HZP
     have HNX2 : Hid (flatT ((Z.take (j + 1)).flatMap (fun z : ZkT => zoneW z.1 :: z.1.li.map lineW)) = flatT ((Z.take j).flatMap (fun z : ZkT => zoneW z.1 :: z.1.li.map lineW)) ++ (joinT (zoneW ⟨bsO NM, li⟩) ++ [10]) ++ flatT (li.map lineW)) := HNX
     have HLX2 : Hid (∀ l ∈ li, liB l = true ∧ ∀ W, Below V.heap.size V W → Calls Tryz.prog 102 #[liV l] W fun e w' => e = .returned (.string ⟨(joinT (lineW l) ++ [10]).toArray⟩) ∧ Below W.heap.size W w') := HLX
     clear HNX HLX
     have e0 : wr.cell? ⟨b, o + j * 2, none⟩ = some (.string NM) := hcc 0 _ (by decide) rfl
     have e1 : wr.cell? ⟨b, o + j * 2 + 1, none⟩ = some (.slice a2 li.length n2) := hcc 1 _ (by decide) rfl
     clear hcc
     have hjj : (j : Int) < (Z.length : Int) := by omega
     have hjr : Z.length ≤ 30 := HV.out.2.1
     go_upto_region 12 with fail
     obtain ⟨b8, hb8⟩ : ∃ b, wr.heap.size = b := ⟨_, rfl⟩
     have hn8 : b8 ≠ b4 := by have := HBL2.out.lt; omega
     obtain ⟨Y, hY⟩ : ∃ Y, wr.alloc (.cells #[.string NM, .slice a2 li.length n2] 45) = Y := ⟨_, rfl⟩
     have HBY : Hid (Below wr.heap.size wr Y) := Lib.hid (by rw [← hY]; exact (Below.refl _ _).alloc (Nat.le_refl _) _)
     have HK : Hid (Blk Y b8 #[.string NM, .slice a2 li.length n2] 45) := Lib.hid (by rw [← hY, ← hb8]; exact Blk.new _ _ _)
     try rw [hY]
     try rw [hb8]
     clear hY hb8
     clear e0 e1
     have HBLY := Lib.hid (HBL2.out.below HBY.out)
     have u0 := HK.out.cell (j := 0) rfl
     obtain ⟨ZS, hZS⟩ : ∃ D : ByteArray, (⟨#[122, 111, 110, 101, 32]⟩ ++ NM ++ ⟨#[10]⟩ : ByteArray) = D := ⟨_, rfl⟩
     have HZS : Hid (bsO ZS = joinT (zoneW ⟨bsO NM, li⟩) ++ [10]) := Lib.hid (by rw [← hZS, bs_app, bs_app]; rfl)
     have hzs : (ZS.size : Int) ≤ 300 := by
      have q := congrArg List.length HZS.out
      rw [bs_len] at q
      simp [zoneW, joinT] at q
      omega
     go_upto_region 13 with (first | (go_at_call 100; refine (ws_any HBLY.out ZS (by have := HLL.out; omega)).mono ?_; rintro e w9 ⟨rfl, hb9, hk9⟩; obtain ⟨W9, hW9⟩ : ∃ W, w9 = W := ⟨_, rfl⟩; rw [hW9] at hb9 hk9 ⊢; clear hW9; have HBL9 := Lib.hid hb9; have HK9 := Lib.hid (HK.out.others hk9 hn8 (by decide)); clear hb9 hk9) | fail)
     have u1 := HK9.out.cell (j := 1) rfl
     clear hZS u0
     have HL9 : Hid (l2 ++ bsO ZS = flatT (S.ru.map ruleW) ++ flatT ((Z.take j).flatMap (fun z : ZkT => zoneW z.1 :: z.1.li.map lineW)) ++ (joinT (zoneW ⟨bsO NM, li⟩) ++ [10])) := Lib.hid (by rw [HZS.out, HLE.out])
     have HN9 : Hid ((l2 ++ bsO ZS).length ≤ 30300 + 31000 * j) := Lib.hid (by have := HLL.out; rw [List.length_append, bs_len]; omega)
     obtain ⟨l3, hl3⟩ : ∃ l, l2 ++ bsO ZS = l := ⟨_, rfl⟩
     rw [hl3] at HL9 HN9 HBL9
     clear hl3 HLE HLL HZS HBLY HBL2 HBL
     go_upto_region 14 with fail
     clear u1
     generalize wr = W0 at *
     go_loopw [10, 42] (fun _ u wr => ∃ m : Nat, u = .int .i64 m ∧ m ≤ li.length ∧ Hid (∃ l4, l4 = l3 ++ flatT ((li.take m).map lineW) ∧ l4.length ≤ 30300 + 31000 * j + 300 * m ∧ Bld V b4 l4 wr)) (fun _ u _ => li.length - (intOf u).toNat)
     case atStart => exact ⟨0, rfl, Nat.zero_le _, ⟨_, (List.append_nil l3).symm, HN9.out, HBL9.out⟩⟩
     case round =>
      obtain ⟨m, rfl, hm, HL⟩ := hrel
      obtain ⟨l4, hl, hll, hbl⟩ := HL.out
      have HLE := Lib.hid hl
      have HLL := Lib.hid hll
      have HBLm := Lib.hid hbl
      clear HL hl hll hbl
      by_cases hlt2 : m < li.length
      ·obtain ⟨al', cl', ea, _, hc⟩ := HLI.out.below (keepBelow HBV.out HBLm.out.2)
       cases ea
       obtain ⟨b', o', rfl, hcc⟩ := hc m hlt2
       have HNXl := Lib.hid (flat_next lineW (L := li) li0 hlt2)
       obtain ⟨x, hx⟩ : ∃ x, li.getD m li0 = x := ⟨_, rfl⟩
       have hxm : x ∈ li := by rw [← hx]; exact getD_mem hlt2
       have HRX := Lib.hid (HLX2.out x hxm).2
       have HXL := Lib.hid (lineL_len (HLX2.out x hxm).1)
       rw [hx] at hcc HNXl
       clear hc hx hxm
       obtain ⟨tx, htx⟩ : ∃ t, joinT (lineW x) ++ [10] = t := ⟨_, rfl⟩
       rw [htx] at HRX HXL HNXl
       obtain ⟨TX, rfl⟩ := bs_of tx
       have hts : (TX.size : Int) ≤ 300 := by have := HXL.out; rw [bs_len] at this; omega
       clear htx HXL
       obtain ⟨of_, ru, sv, fm, la, ⟨yr, mo, ⟨k, v, d⟩, at_, ck⟩⟩ := x
       obtain ⟨RU, rfl⟩ := bs_of ru
       obtain ⟨FM, rfl⟩ := bs_of fm
       have HRX2 : Hid (∀ W, Below V.heap.size V W → Calls Tryz.prog 102 #[.agg #[.int .i64 of_, .string RU, .int .i64 sv, .string FM, .bool la, .int .i64 yr, .int .i64 mo, .int .i64 k, .int .i64 v, .int .i64 d, .int .i64 at_, .int .i64 ck]] W fun e w' => e = .returned (.string TX) ∧ Below W.heap.size W w') := HRX
       clear HRX
       have e0 : wr.cell? ⟨b', o' + m * 12, none⟩ = some (.int .i64 of_) := hcc 0 _ (by decide) rfl
       have e1 : wr.cell? ⟨b', o' + m * 12 + 1, none⟩ = some (.string RU) := hcc 1 _ (by decide) rfl
       have e2 : wr.cell? ⟨b', o' + m * 12 + 2, none⟩ = some (.int .i64 sv) := hcc 2 _ (by decide) rfl
       have e3 : wr.cell? ⟨b', o' + m * 12 + 3, none⟩ = some (.string FM) := hcc 3 _ (by decide) rfl
       have e4 : wr.cell? ⟨b', o' + m * 12 + 4, none⟩ = some (.bool la) := hcc 4 _ (by decide) rfl
       have e5 : wr.cell? ⟨b', o' + m * 12 + 5, none⟩ = some (.int .i64 yr) := hcc 5 _ (by decide) rfl
       have e6 : wr.cell? ⟨b', o' + m * 12 + 6, none⟩ = some (.int .i64 mo) := hcc 6 _ (by decide) rfl
       have e7 : wr.cell? ⟨b', o' + m * 12 + 7, none⟩ = some (.int .i64 k) := hcc 7 _ (by decide) rfl
       have e8 : wr.cell? ⟨b', o' + m * 12 + 8, none⟩ = some (.int .i64 v) := hcc 8 _ (by decide) rfl
       have e9 : wr.cell? ⟨b', o' + m * 12 + 9, none⟩ = some (.int .i64 d) := hcc 9 _ (by decide) rfl
       have e10 : wr.cell? ⟨b', o' + m * 12 + 10, none⟩ = some (.int .i64 at_) := hcc 10 _ (by decide) rfl
       have e11 : wr.cell? ⟨b', o' + m * 12 + 11, none⟩ = some (.int .i64 ck) := hcc 11 _ (by decide) rfl
       clear hcc
       have hmm : (m : Int) < (li.length : Int) := by omega
       go_upto_region 16 with fail
       obtain ⟨b10, hb10⟩ : ∃ b, wr.heap.size = b := ⟨_, rfl⟩
       obtain ⟨Y, hY⟩ : ∃ Y, wr.alloc (.cells #[.int .i64 of_, .string RU, .int .i64 sv, .string FM, .bool la, .int .i64 yr, .int .i64 mo, .int .i64 k, .int .i64 v, .int .i64 d, .int .i64 at_, .int .i64 ck] 102) = Y := ⟨_, rfl⟩
       have HBY2 : Hid (Below wr.heap.size wr Y) := Lib.hid (by rw [← hY]; exact (Below.refl _ _).alloc (Nat.le_refl _) _)
       have HK2 : Hid (Blk Y b10 #[.int .i64 of_, .string RU, .int .i64 sv, .string FM, .bool la, .int .i64 yr, .int .i64 mo, .int .i64 k, .int .i64 v, .int .i64 d, .int .i64 at_, .int .i64 ck] 102) := Lib.hid (by rw [← hY, ← hb10]; exact Blk.new _ _ _)
       try rw [hY]
       try rw [hb10]
       clear hY hb10
       clear e0 e1 e2 e3 e4 e5 e6 e7 e8 e9 e10 e11
       have HBLY := Lib.hid (HBLm.out.below HBY2.out)
       have u0 := HK2.out.cell (j := 0) rfl
       have u1 := HK2.out.cell (j := 1) rfl
       have u2 := HK2.out.cell (j := 2) rfl
       have u3 := HK2.out.cell (j := 3) rfl
       have u4 := HK2.out.cell (j := 4) rfl
       have u5 := HK2.out.cell (j := 5) rfl
       have u6 := HK2.out.cell (j := 6) rfl
       have u7 := HK2.out.cell (j := 7) rfl
       have u8 := HK2.out.cell (j := 8) rfl
       have u9 := HK2.out.cell (j := 9) rfl
       have u10 := HK2.out.cell (j := 10) rfl
       have u11 := HK2.out.cell (j := 11) rfl
       go_wp2_with (first
        | (go_at_call 102; refine (HRX2.out _ HBLY.out.2).mono ?_; rintro e w7 ⟨rfl, hb7⟩; obtain ⟨W7, hW7⟩ : ∃ W, w7 = W := ⟨_, rfl⟩; rw [hW7] at hb7 ⊢; clear hW7; have HBL7 := Lib.hid (HBLY.out.below hb7); clear hb7)
        | (go_at_call 100; refine (ws_any HBL7.out TX (by have := HLL.out; omega)).mono ?_; rintro e w8 ⟨rfl, hb8, hk8⟩)
        | fail)
       go_roundw
       case rel => exact ⟨m + 1, by go_num, hlt2, ⟨_, by rw [HNXl.out, HLE.out, List.append_assoc], by have := HLL.out; rw [List.length_append, bs_len]; omega, hb8⟩⟩
       case measure => simp [intOf]; omega
      ·obtain rfl : m = li.length := by omega
       have HLEn : Hid (l4 = flatT (S.ru.map ruleW) ++ flatT ((Z.take (j + 1)).flatMap (fun z : ZkT => zoneW z.1 :: z.1.li.map lineW))) := Lib.hid (by
        rw [HLE.out, List.take_length, HL9.out, HNX2.out]
        simp only [List.append_assoc])
       go_wp2_with fail
       go_roundw
       case rel => exact ⟨j + 1, by go_num, hlt, ⟨_, HLEn.out, by have := HLL.out; omega, HBLm.out⟩⟩
       case measure => simp [intOf]; omega
    ·obtain rfl : j = Z.length := by omega
     have HLE2 : Hid (l2 = flatT (S.ru.map ruleW) ++ flatT (Z.flatMap (fun z : ZkT => zoneW z.1 :: z.1.li.map lineW))) := Lib.hid (by rw [HLE.out, List.take_length])
     have HLL2 : Hid (l2.length ≤ 1000000) := Lib.hid (by have := HLL.out; have := HV.out.2.1; omega)
     have y2 := (HXB.out _ HBL2.out.2).2.2
     clear HLE HLL hj hlt HLT HBL HLE1 HLL1
     go_upto_region 20 with fail
     clear y2
     generalize wr = W2 at *
     go_loopw [12, 54] (fun _ u wr => ∃ i : Nat, u = .int .i64 i ∧ i ≤ S.lk.length ∧ Hid (∃ l5, l5 = l2 ++ flatT ((S.lk.take i).map linkW) ∧ l5.length ≤ 1000000 + 300 * i ∧ Bld V b4 l5 wr)) (fun _ u _ => S.lk.length - (intOf u).toNat)
     case atStart => exact ⟨0, rfl, Nat.zero_le _, ⟨_, (List.append_nil l2).symm, HLL2.out, HBL2.out⟩⟩
     case round =>
      obtain ⟨i, rfl, hi, HL⟩ := hrel
      obtain ⟨l5, hl, hll, hbl⟩ := HL.out
      have HLE := Lib.hid hl
      have HLL := Lib.hid hll
      have HBL5 := Lib.hid hbl
      clear HL hl hll hbl
      by_cases hlt : i < S.lk.length
      ·obtain ⟨al', cl', ea, _, hc⟩ := HS.out.lk.below (keepBelow HBV.out HBL5.out.2)
       cases ea
       obtain ⟨b, o, rfl, hcc⟩ := hc i hlt
       have HNX := Lib.hid (flat_next linkW (L := S.lk) lk0 hlt)
       obtain ⟨x, hx⟩ : ∃ x, S.lk.getD i lk0 = x := ⟨_, rfl⟩
       have hxm : x ∈ S.lk := by rw [← hx]; exact getD_mem hlt
       have HXP := Lib.hid (HV.out.2.2.2.2.2 x hxm)
       rw [hx] at hcc HNX
       clear hc hx hxm
       obtain ⟨nm, zo⟩ := x
       obtain ⟨NM, rfl⟩ := bs_of nm
       obtain ⟨ZN, rfl⟩ := bs_of zo
       have hns : (NM.size : Int) ≤ 30 := by have := (name_wd HXP.out.1).2; rw [bs_len] at this; omega
       have hzs : (ZN.size : Int) ≤ 30 := by have := (name_wd HXP.out.2).2; rw [bs_len] at this; omega
       have e0 : wr.cell? ⟨b, o + i * 2, none⟩ = some (.string NM) := hcc 0 _ (by decide) rfl
       have e1 : wr.cell? ⟨b, o + i * 2 + 1, none⟩ = some (.string ZN) := hcc 1 _ (by decide) rfl
       clear hcc
       have hii : (i : Int) < (S.lk.length : Int) := by omega
       have hir : S.lk.length ≤ 30 := HV.out.2.2.1
       go_upto_region 22 with fail
       obtain ⟨b12, hb12⟩ : ∃ b, wr.heap.size = b := ⟨_, rfl⟩
       obtain ⟨Y, hY⟩ : ∃ Y, wr.alloc (.cells #[.string NM, .string ZN] 48) = Y := ⟨_, rfl⟩
       have HBY : Hid (Below wr.heap.size wr Y) := Lib.hid (by rw [← hY]; exact (Below.refl _ _).alloc (Nat.le_refl _) _)
       have HK : Hid (Blk Y b12 #[.string NM, .string ZN] 48) := Lib.hid (by rw [← hY, ← hb12]; exact Blk.new _ _ _)
       try rw [hY]
       try rw [hb12]
       clear hY hb12
       clear e0 e1
       have HBLY := Lib.hid (HBL5.out.below HBY.out)
       have u0 := HK.out.cell (j := 0) rfl
       have u1 := HK.out.cell (j := 1) rfl
       obtain ⟨ZS, hZS⟩ : ∃ D : ByteArray, (⟨#[108, 105, 110, 107, 32]⟩ ++ NM ++ ⟨#[32]⟩ ++ ZN ++ ⟨#[10]⟩ : ByteArray) = D := ⟨_, rfl⟩
       have HZS : Hid (bsO ZS = joinT (linkW ⟨bsO NM, bsO ZN⟩) ++ [10]) := Lib.hid (by
        rw [← hZS, bs_app, bs_app, bs_app, bs_app]
        simp [linkW, joinT, bsO])
       have hss : (ZS.size : Int) ≤ 300 := by
        have q := congrArg List.length HZS.out
        rw [bs_len] at q
        simp [linkW, joinT] at q
        omega
       go_wp2_with (first
        | (go_at_call 100; refine (ws_any HBLY.out ZS (by have := HLL.out; omega)).mono ?_; rintro e w8 ⟨rfl, hb8, hk8⟩)
        | fail)
       go_roundw
       case rel => exact ⟨i + 1, by go_num, hlt, ⟨_, by rw [HNX.out, HLE.out, HZS.out, List.append_assoc], by have := HLL.out; rw [List.length_append, bs_len]; omega, hb8⟩⟩
       case measure => simp [intOf]; omega
      ·obtain rfl : i = S.lk.length := by omega
       have HFL : Hid (l5 = flatT (wordsT S)) := Lib.hid (by rw [HLE.out, List.take_length, HLE2.out, HWT.out, flatT_app, flatT_app])
       have hl6 : l5.length ≤ 2000000 := by have := HLL.out; have := HV.out.2.2.1; omega
       have HTM3 : Hid ((bsO TT, te) = if 65536 < l5.length then ([], 5) else (l5, 0)) := Lib.hid (by rw [HFL.out]; exact HTM2.out)
       by_cases h6 : 65536 < l5.length
       ·obtain ⟨hT1, hT2⟩ : bsO TT = [] ∧ te = 5 := by
         have q := HTM3.out
         rw [if_pos h6] at q
         injection q with q1 q2
         exact ⟨q1, q2⟩
        have h7 : (65536 : Int) < (l5.length : Int) := by omega
        have HNO := Lib.hid (ret_tt (A := ⟨#[]⟩) hT1 hT2)
        clear h6 hT1 hT2
        go_wp2_with (first | (go_at_call 103; refine (blen_any HBL5.out).mono ?_; rintro e w8 ⟨rfl, hw8⟩; rw [hw8]; clear hw8) | fail)
        go_ret2
        exact ⟨HNO.out, keepBelow HBV.out HBL5.out.2⟩
       ·obtain ⟨hT1, hT2⟩ : bsO TT = l5 ∧ te = 0 := by
         have q := HTM3.out
         rw [if_neg h6] at q
         injection q with q1 q2
         exact ⟨q1, q2⟩
        have h7 : ¬(65536 : Int) < (l5.length : Int) := by omega
        have HNO := Lib.hid (ret_tt (A := ⟨l5.toArray⟩) hT1 hT2)
        clear h6 hT1 hT2
        go_wp2_with (first | (go_at_call 103; refine (blen_any HBL5.out).mono ?_; rintro e w8 ⟨rfl, hw8⟩; rw [hw8]; clear hw8) | (go_at_call 104; refine (bstr_any HBL5.out).mono ?_; rintro e w8 ⟨rfl, hb8⟩) | fail)
        go_ret2
        exact ⟨HNO.out, keepBelow HBV.out hb8⟩
end Go.Proofs.YtlbglinpgjlbkaaGreatDoor
