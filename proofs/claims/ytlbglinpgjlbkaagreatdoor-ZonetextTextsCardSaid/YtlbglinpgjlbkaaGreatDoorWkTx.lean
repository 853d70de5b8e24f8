import Derived.Test.YtlbglinpgjlbkaaGreatDoorWkLt
import Derived.Test.YtlbglinpgjlbkaaGreatDoorWkC5
/- Zone texts: the reference's Text. Printed by gen_tx.py. No conditions. -/
namespace Go.Proofs.YtlbglinpgjlbkaaGreatDoor
open Go.RowKit Wk

set_option maxRecDepth 100000 in
set_option maxHeartbeats 8000000 in
theorem text19_any (rv zv lv : Value) (S : SrT) (Z : List ZkT) (w : World) (hs : RdSr w rv zv lv S Z) (hz : SzS S) :
  Calls Tryz.prog 34 #[.agg #[rv, zv, lv]] w fun e w' => e = .returned (.tuple #[.string ⟨(textM S).1.toArray⟩, .int .i64 (textM S).2]) ∧ Below w.heap.size w w' := by
 have HS := Lib.hid hs
 have HVA : Hid (∀ W, Below w.heap.size w W → Calls Tryz.prog 24 #[.agg #[rv, zv, lv]] W fun e w' => e = .returned (.bool (validB S)) ∧ Below W.heap.size W w') := Lib.hid fun W hW => valid19_any rv zv lv S Z W (hs.below hW) hz
 have HVP : Hid (validB S = true → S.ru.length ≤ 100 ∧ Z.length ≤ 30 ∧ S.lk.length ≤ 30 ∧ (∀ r ∈ S.ru, ruB r = true) ∧ (∀ z ∈ Z, zoB z.1 = true) ∧ (∀ x ∈ S.lk, nameB x.nm = true ∧ nameB x.zo = true)) := Lib.hid fun h => by
  obtain ⟨h1, h2, h3, h4, h5, -⟩ := valid_parts h
  rw [← hs.zs, List.length_map] at h2
  exact ⟨h1, by omega, by omega, h3, fun z hz => h4 z.1 (by rw [← hs.zs]; exact List.mem_map_of_mem hz), h5⟩
 have HWT : Hid (wordsT S = S.ru.map ruleW ++ Z.flatMap (fun z : ZkT => zoneW z.1 :: z.1.li.map lineW) ++ S.lk.map linkW) := Lib.hid (by
  unfold wordsT
  rw [← hs.zs, List.flatMap_map])
 have HTM : Hid (textM S = if validB S = false then ([], 1) else if 65536 < (flatT (wordsT S)).length then ([], 5) else (flatT (wordsT S), 0)) := Lib.hid rfl
 obtain ⟨tm, htm⟩ : ∃ t, textM S = t := ⟨_, rfl⟩
 rw [htm] at HTM ⊢
 obtain ⟨tt, te⟩ := tm
 obtain ⟨TT, rfl⟩ := bs_of tt
 show Calls _ _ _ _ fun e w' => e = .returned (.tuple #[.string TT, .int .i64 te]) ∧ Below w.heap.size w w'
 obtain ⟨q, hq⟩ : ∃ q, validB S = q := ⟨_, rfl⟩
 rw [hq] at HVA HVP HTM
 obtain ⟨ra, rc, rfl⟩ := hs.ru.form
 obtain ⟨za, zc, rfl⟩ := hs.zo.row.form
 obtain ⟨la, lc, rfl⟩ := hs.lk.form
 clear hs hz htm hq
 go_enter Tryz.func34, Tryz.ntmps34
 go_upto_region 1 with fail
 obtain ⟨bx, hbx⟩ : ∃ b, w.heap.size = b := ⟨_, rfl⟩
 obtain ⟨X, hX⟩ : ∃ Y, w.alloc (.cells #[.slice ra S.ru.length rc, .slice za Z.length zc, .slice la S.lk.length lc] 27) = Y := ⟨_, rfl⟩
 have HBX : Hid (Below w.heap.size w X) := Lib.hid (by rw [← hX]; exact (Below.refl _ _).alloc (Nat.le_refl _) _)
 have HXK : Hid (Blk X bx #[.slice ra S.ru.length rc, .slice za Z.length zc, .slice la S.lk.length lc] 27) := Lib.hid (by rw [← hX, ← hbx]; exact Blk.new _ _ _)
 try rw [hX]
 try rw [hbx]
 clear hX hbx
 have x0 := HXK.out.cell (j := 0) rfl
 have x1 := HXK.out.cell (j := 1) rfl
 have x2 := HXK.out.cell (j := 2) rfl
 cases q with
 | false =>
  obtain ⟨hT1, hT2⟩ : bsO TT = [] ∧ te = 1 := by
   have q := HTM.out
   rw [if_pos rfl] at q
   injection q with q1 q2
   exact ⟨q1, q2⟩
  have HNO := Lib.hid (ret_tt (A := ⟨#[]⟩) hT1 hT2)
  clear hT1 hT2
  go_wp2_with (first | (go_at_call 24; refine (HVA.out _ HBX.out).mono ?_; rintro e w2 ⟨rfl, hb2⟩) | fail)
  go_ret2
  exact ⟨HNO.out, keepBelow HBX.out hb2⟩
 | true =>
 have HTM2 : Hid ((bsO TT, te) = if 65536 < (flatT (wordsT S)).length then ([], 5) else (flatT (wordsT S), 0)) := Lib.hid (by rw [HTM.out, if_neg (by simp)])
 have HV := Lib.hid (HVP.out rfl)
 clear HTM HVP
 go_upto_region 3 with (first | (go_at_call 24; refine (HVA.out _ HBX.out).mono ?_; rintro e w2 ⟨rfl, hb2⟩; obtain ⟨V, hV⟩ : ∃ W, w2 = W := ⟨_, rfl⟩; rw [hV] at hb2 ⊢; clear hV; have HBV := Lib.hid (keepBelow HBX.out hb2); have HXV := Lib.hid (HXK.out.below hb2); clear hb2) | fail)
 clear x0 x1 x2 HXK HVA
 have HXB : Hid (∀ W, Below V.heap.size V W → W.cell? ⟨bx, 0, none⟩ = some (.slice ra S.ru.length rc) ∧ W.cell? ⟨bx, 1, none⟩ = some (.slice za Z.length zc) ∧ W.cell? ⟨bx, 2, none⟩ = some (.slice la S.lk.length lc)) := Lib.hid fun W hW => ⟨(HXV.out.below hW).cell (j := 0) rfl, (HXV.out.below hW).cell (j := 1) rfl, (HXV.out.below hW).cell (j := 2) rfl⟩
 have HRT : Hid (∀ r ∈ S.ru, ∀ W, Below V.heap.size V W → Calls Tryz.prog 105 #[ruV r] W fun e w' => e = .returned (.string ⟨(joinT (ruleW r) ++ [10]).toArray⟩) ∧ Below W.heap.size W w') := Lib.hid fun r hr W hW => ruleText19_any r (HV.out.2.2.2.1 r hr) W
 have HLT : Hid (∀ z ∈ Z, ∀ l ∈ z.1.li, liB l = true ∧ ∀ W, Below V.heap.size V W → Calls Tryz.prog 106 #[liV l] W fun e w' => e = .returned (.string ⟨(joinT (lineW l) ++ [10]).toArray⟩) ∧ Below W.heap.size W w') := Lib.hid fun z hz l hl => by
  obtain ⟨-, -, -, h⟩ := zo_parts (HV.out.2.2.2.2.1 z hz)
  obtain ⟨i, hi, e⟩ := List.mem_iff_getElem.1 hl
  have h1 := (h i hi).1
  rw [e] at h1
  exact ⟨h1, fun W hW => lineText19_any l h1 W⟩
 go_upto_region 5 with fail
 go_loopw [4, 5] (fun u4 u wr => ∃ (i : Nat) (O : ByteArray), u = .int .i64 i ∧ u4 = .string O ∧ i ≤ S.ru.length ∧ (O.size : Int) ≤ 300 * i ∧ Hid (bsO O = flatT ((S.ru.take i).map ruleW)) ∧ Hid (Below V.heap.size V wr)) (fun _ u _ => S.ru.length - (intOf u).toNat)
 case atStart => exact ⟨0, ⟨#[]⟩, rfl, rfl, Nat.zero_le _, by decide, Lib.hid rfl, Below.refl _ _⟩
 case round =>
  obtain ⟨i, O, rfl, rfl, hi, hos, HLE, HB⟩ := hrel
  have y0 := (HXB.out _ HB.out).1
  have hir : S.ru.length ≤ 100 := HV.out.1
  have hib : (i : Int) ≤ 100 := by omega
  by_cases hlt : i < S.ru.length
  ·obtain ⟨al', cl', ea, _, hc⟩ := HS.out.ru.below (keepBelow HBV.out HB.out)
   cases ea
   obtain ⟨b, o, rfl, hcc⟩ := hc i hlt
   have HNX := Lib.hid (flat_next ruleW (L := S.ru) ru0 hlt)
   obtain ⟨x, hx⟩ : ∃ x, S.ru.getD i ru0 = x := ⟨_, rfl⟩
   have hxm : x ∈ S.ru := by rw [← hx]; exact getD_mem hlt
   have HRX := Lib.hid (HRT.out x hxm)
   have HXL := Lib.hid (ruleL_len (HV.out.2.2.2.1 x hxm))
   rw [hx] at hcc HNX
   clear hc hx hxm
   obtain ⟨tx, htx⟩ : ∃ t, joinT (ruleW x) ++ [10] = t := ⟨_, rfl⟩
   rw [htx] at HRX HXL HNX
   obtain ⟨TX, rfl⟩ := bs_of tx
   have hts : (TX.size : Int) ≤ 300 := by have := HXL.out; rw [bs_len] at this; omega
   clear htx HXL
   obtain ⟨nm, fr, to_, mo, ⟨k, v, d⟩, at_, ck, sv, le⟩ := x
   obtain ⟨NM, rfl⟩ := bs_of nm
   obtain ⟨LE, rfl⟩ := bs_of le
   have HRX2 : Hid (∀ W, Below V.heap.size V W → Calls Tryz.prog 105 #[.agg #[.string NM, .int .i64 fr, .int .i64 to_, .int .i64 mo, .int .i64 k, .int .i64 v, .int .i64 d, .int .i64 at_, .int .i64 ck, .int .i64 sv, .string LE]] W fun e w' => e = .returned (.string TX) ∧ Below W.heap.size W w') := HRX
   clear HRX
   have e0 : wr.cell? ⟨b, o + i * 11, none⟩ = some (.string NM) := hcc 0 _ (by decide) rfl
   have e1 : wr.cell? ⟨b, o + i * 11 + 1, none⟩ = some (.int .i64 fr) := hcc 1 _ (by decide) rfl
   have e2 : wr.cell? ⟨b, o + i * 11 + 2, none⟩ = some (.int .i64 to_) := hcc 2 _ (by decide) rfl
   have e3 : wr.cell? ⟨b, o + i * 11 + 3, none⟩ = some (.int .i64 mo) := hcc 3 _ (by decide) rfl
   have e4 : wr.cell? ⟨b, o + i * 11 + 4, none⟩ = some (.int .i64 k) := hcc 4 _ (by decide) rfl
   have e5 : wr.cell? ⟨b, o + i * 11 + 5, none⟩ = some (.int .i64 v) := hcc 5 _ (by decide) rfl
   have e6 : wr.cell? ⟨b, o + i * 11 + 6, none⟩ = some (.int .i64 d) := hcc 6 _ (by decide) rfl
   have e7 : wr.cell? ⟨b, o + i * 11 + 7, none⟩ = some (.int .i64 at_) := hcc 7 _ (by decide) rfl
   have e8 : wr.cell? ⟨b, o + i * 11 + 8, none⟩ = some (.int .i64 ck) := hcc 8 _ (by decide) rfl
   have e9 : wr.cell? ⟨b, o + i * 11 + 9, none⟩ = some (.int .i64 sv) := hcc 9 _ (by decide) rfl
   have e10 : wr.cell? ⟨b, o + i * 11 + 10, none⟩ = some (.string LE) := hcc 10 _ (by decide) rfl
   clear hcc
   have hii : (i : Int) < (S.ru.length : Int) := by omega
   have HN : Hid (bsO (O ++ TX) = flatT ((S.ru.take (i + 1)).map ruleW)) := Lib.hid (by rw [bs_app, HLE.out, HNX.out])
   have HZ : Hid (((O ++ TX).size : Int) ≤ 300 * ((i + 1 : Nat) : Int)) := Lib.hid (by rw [ByteArray.size_append]; omega)
   go_wp2_with (first | (go_at_call 105; refine (HRX2.out _ HB.out).mono ?_; rintro e w7 ⟨rfl, hb7⟩) | fail)
   go_roundw
   case rel => exact ⟨i + 1, O ++ TX, by go_num, rfl, hlt, HZ.out, HN, Lib.hid (keepBelow HB.out hb7)⟩
   case measure => simp [intOf]; omega
  ·obtain rfl : i = S.ru.length := by omega
   have HLE1 : Hid (bsO O = flatT (S.ru.map ruleW)) := Lib.hid (by rw [HLE.out, List.take_length])
   have hos1 : (O.size : Int) ≤ 30000 := by omega
   clear HLE hi hlt HRT hos hib
   go_upto_region 9 with fail
   clear y0
   generalize wr = W1 at *
   go_loopw [4, 6, 7] (fun u4 u _ wr => ∃ (j : Nat) (O2 : ByteArray), u = .int .i64 j ∧ u4 = .string O2 ∧ j ≤ Z.length ∧ (O2.size : Int) ≤ 30000 + 31000 * j ∧ Hid (bsO O2 = flatT (S.ru.map ruleW) ++ flatT ((Z.take j).flatMap (fun z : ZkT => zoneW z.1 :: z.1.li.map lineW))) ∧ Hid (Below V.heap.size V wr)) (fun _ u _ _ => Z.length - (intOf u).toNat)
   case atStart => exact ⟨0, O, rfl, rfl, Nat.zero_le _, by omega, Lib.hid (by rw [HLE1.out, List.take_zero]; exact (List.append_nil _).symm), HB⟩
   case round =>
    clear HB
    obtain ⟨j, O2, rfl, rfl, hj, hos, HLE, HB⟩ := hrel
    have y1 := (HXB.out _ HB.out).2.1
    have hjr : Z.length ≤ 30 := HV.out.2.1
    have hjb : (j : Int) ≤ 30 := by omega
    by_cases hlt : j < Z.length
    ·have HZW := HS.out.zo.below (keepBelow HBV.out HB.out)
     obtain ⟨al', cl', ea, _, hc⟩ := HZW.row
     cases ea
     obtain ⟨b, o, rfl, hcc⟩ := hc j hlt
     have HNX := Lib.hid (zk_next hlt)
     have hli := HS.out.zo.li j hlt
     obtain ⟨x, hx⟩ : ∃ x, Z.getD j zk0 = x := ⟨_, rfl⟩
     have hxm : x ∈ Z := by rw [← hx]; exact getD_mem hlt
     have HLX := Lib.hid (HLT.out x hxm)
     have HZP := Lib.hid (zo_parts (HV.out.2.2.2.2.1 x hxm))
     rw [hx] at hcc HNX hli
     clear hc hx hxm HZW
     obtain ⟨⟨nm, li⟩, lv2⟩ := x
     obtain ⟨NM, rfl⟩ := bs_of nm
     have hns : (NM.size : Int) ≤ 30 := by have := (name_wd HZP.out.1).2; rw [bs_len] at this; omega
     simp only at hli
     obtain ⟨a2, n2, rfl⟩ := hli.form
     have HLI := Lib.hid hli
     have hl1 : li.length ≤ 100 := HZP.out.2.2.1
     clear hli HZP
     have HNX2 : Hid (flatT ((Z.take (j + 1)).flatMap (fun z : ZkT => zoneW z.1 :: z.1.li.map lineW)) = flatT ((Z.take j).flatMap (fun z : ZkT => zoneW z.1 :: z.1.li.map lineW)) ++ (joinT (zoneW ⟨bsO NM, li⟩) ++ [10]) ++ flatT (li.map lineW)) := HNX
     have HLX2 : Hid (∀ l ∈ li, liB l = true ∧ ∀ W, Below V.heap.size V W → Calls Tryz.prog 106 #[liV l] W fun e w' => e = .returned (.string ⟨(joinT (lineW l) ++ [10]).toArray⟩) ∧ Below W.heap.size W w') := HLX
     clear HNX HLX
     have HE0 : Hid (∀ W, Below wr.heap.size wr W → W.cell? ⟨b, o + j * 2 + 1, none⟩ = some (.slice a2 li.length n2)) := Lib.hid fun W hW => keepCell hW (hcc 1 _ (by decide) rfl)
     have e0 : wr.cell? ⟨b, o + j * 2, none⟩ = some (.string NM) := hcc 0 _ (by decide) rfl
     clear hcc
     have hjj : (j : Int) < (Z.length : Int) := by omega
     obtain ⟨O3, hO3⟩ : ∃ D : ByteArray, O2 ++ ⟨#[122, 111, 110, 101, 32]⟩ ++ NM ++ ⟨#[10]⟩ = D := ⟨_, rfl⟩
     have HZS : Hid (bsO O3 = flatT (S.ru.map ruleW) ++ flatT ((Z.take j).flatMap (fun z : ZkT => zoneW z.1 :: z.1.li.map lineW)) ++ (joinT (zoneW ⟨bsO NM, li⟩) ++ [10])) := Lib.hid (by
      rw [← hO3, bs_app, bs_app, bs_app, HLE.out]
      simp [zoneW, joinT, bsO])
     have hos3 : (O3.size : Int) ≤ 30300 + 31000 * j := by
      rw [← hO3]
      simp only [ByteArray.size_append]
      have : (⟨#[122, 111, 110, 101, 32]⟩ : ByteArray).size = 5 := rfl
      have : (⟨#[10]⟩ : ByteArray).size = 1 := rfl
      omega
     go_upto_region 13 with fail
     clear hO3 e0 HLE
     generalize wr = W0 at *
     go_loopw [4, 7] (fun u4 u wr => ∃ (m : Nat) (O4 : ByteArray), u = .int .i64 m ∧ u4 = .string O4 ∧ m ≤ li.length ∧ (O4.size : Int) ≤ 30300 + 31000 * j + 300 * m ∧ Hid (bsO O4 = bsO O3 ++ flatT ((li.take m).map lineW)) ∧ Hid (Below W0.heap.size W0 wr)) (fun _ u _ => li.length - (intOf u).toNat)
     case atStart => exact ⟨0, O3, rfl, rfl, Nat.zero_le _, by omega, Lib.hid (List.append_nil _).symm, Below.refl _ _⟩
     case round =>
      obtain ⟨m, O4, rfl, rfl, hm, hos4, HLE, HBm⟩ := hrel
      have HBW := Lib.hid (keepBelow HB.out HBm.out)
      have y2 := (HXB.out _ HBW.out).2.1
      have e1 := HE0.out _ HBm.out
      have hmb : (m : Int) ≤ 100 := by omega
      by_cases hlt2 : m < li.length
      ·obtain ⟨al', cl', ea, _, hc⟩ := HLI.out.below (keepBelow HBV.out HBW.out)
       cases ea
       obtain ⟨b', o', rfl, hcc⟩ := hc m hlt2
       have HNXl := Lib.hid (flat_next lineW (L := li) li0 hlt2)
       obtain ⟨x, hx⟩ : ∃ x, li.getD m li0 = x := ⟨_, rfl⟩
       have hxm : x ∈ li := by rw [← hx]; exact getD_mem hlt2
       have HRX := Lib.hid (HLX2.out x hxm).2
       have HXL := Lib.hid (lineL_len (HLX2.out x hxm).1)
       rw [hx] at hcc HNXl
       clear hc hx hxm
       obtain ⟨tx, htx⟩ : ∃ t, joinT (lineW x) ++ [10] = t := ⟨_, rfl⟩
       rw [htx] at HRX HXL HNXl
       obtain ⟨TX, rfl⟩ := bs_of tx
       have hts : (TX.size : Int) ≤ 300 := by have := HXL.out; rw [bs_len] at this; omega
       clear htx HXL
       obtain ⟨of_, ru, sv, fm, la, ⟨yr, mo, ⟨k, v, d⟩, at_, ck⟩⟩ := x
       obtain ⟨RU, rfl⟩ := bs_of ru
       obtain ⟨FM, rfl⟩ := bs_of fm
       have HRX2 : Hid (∀ W, Below V.heap.size V W → Calls Tryz.prog 106 #[.agg #[.int .i64 of_, .string RU, .int .i64 sv, .string FM, .bool la, .int .i64 yr, .int .i64 mo, .int .i64 k, .int .i64 v, .int .i64 d, .int .i64 at_, .int .i64 ck]] W fun e w' => e = .returned (.string TX) ∧ Below W.heap.size W w') := HRX
       clear HRX
       have c0 : wr.cell? ⟨b', o' + m * 12, none⟩ = some (.int .i64 of_) := hcc 0 _ (by decide) rfl
       have c1 : wr.cell? ⟨b', o' + m * 12 + 1, none⟩ = some (.string RU) := hcc 1 _ (by decide) rfl
       have c2 : wr.cell? ⟨b', o' + m * 12 + 2, none⟩ = some (.int .i64 sv) := hcc 2 _ (by decide) rfl
       have c3 : wr.cell? ⟨b', o' + m * 12 + 3, none⟩ = some (.string FM) := hcc 3 _ (by decide) rfl
       have c4 : wr.cell? ⟨b', o' + m * 12 + 4, none⟩ = some (.bool la) := hcc 4 _ (by decide) rfl
       have c5 : wr.cell? ⟨b', o' + m * 12 + 5, none⟩ = some (.int .i64 yr) := hcc 5 _ (by decide) rfl
       have c6 : wr.cell? ⟨b', o' + m * 12 + 6, none⟩ = some (.int .i64 mo) := hcc 6 _ (by decide) rfl
       have c7 : wr.cell? ⟨b', o' + m * 12 + 7, none⟩ = some (.int .i64 k) := hcc 7 _ (by decide) rfl
       have c8 : wr.cell? ⟨b', o' + m * 12 + 8, none⟩ = some (.int .i64 v) := hcc 8 _ (by decide) rfl
       have c9 : wr.cell? ⟨b', o' + m * 12 + 9, none⟩ = some (.int .i64 d) := hcc 9 _ (by decide) rfl
       have c10 : wr.cell? ⟨b', o' + m * 12 + 10, none⟩ = some (.int .i64 at_) := hcc 10 _ (by decide) rfl
       have c11 : wr.cell? ⟨b', o' + m * 12 + 11, none⟩ = some (.int .i64 ck) := hcc 11 _ (by decide) rfl
       clear hcc
       have hmm : (m : Int) < (li.length : Int) := by omega
       have HN : Hid (bsO (O4 ++ TX) = bsO O3 ++ flatT ((li.take (m + 1)).map lineW)) := Lib.hid (by rw [bs_app, HLE.out, HNXl.out, List.append_assoc])
       have HZ : Hid (((O4 ++ TX).size : Int) ≤ 30300 + 31000 * j + 300 * ((m + 1 : Nat) : Int)) := Lib.hid (by rw [ByteArray.size_append]; omega)
       go_wp2_with (first | (go_at_call 106; refine (HRX2.out _ HBW.out).mono ?_; rintro e w7 ⟨rfl, hb7⟩) | fail)
       go_roundw
       case rel => exact ⟨m + 1, O4 ++ TX, by go_num, rfl, hlt2, HZ.out, HN, Lib.hid (keepBelow HBm.out hb7)⟩
       case measure => simp [intOf]; omega
      ·obtain rfl : m = li.length := by omega
       have HLEn : Hid (bsO O4 = flatT (S.ru.map ruleW) ++ flatT ((Z.take (j + 1)).flatMap (fun z : ZkT => zoneW z.1 :: z.1.li.map lineW))) := Lib.hid (by
        rw [HLE.out, List.take_length, HZS.out, HNX2.out]
        simp only [List.append_assoc])
       have HZ : Hid ((O4.size : Int) ≤ 30000 + 31000 * ((j + 1 : Nat) : Int)) := Lib.hid (by omega)
       go_wp2_with fail
       go_roundw
       case rel => exact ⟨j + 1, O4, by go_num, rfl, hlt, HZ.out, HLEn, HBW⟩
       case measure => simp [intOf]; omega
    ·obtain rfl : j = Z.length := by omega
     have HLE2 : Hid (bsO O2 = flatT (S.ru.map ruleW) ++ flatT (Z.flatMap (fun z : ZkT => zoneW z.1 :: z.1.li.map lineW))) := Lib.hid (by rw [HLE.out, List.take_length])
     have hos2 : (O2.size : Int) ≤ 1000000 := by omega
     clear HLE hj hlt HLT HLE1 hos1 hos hjb hjr
     go_upto_region 17 with fail
     clear y1
     generalize wr = W2 at *
     go_loopw [4, 8] (fun u4 u wr => ∃ (i : Nat) (O5 : ByteArray), u = .int .i64 i ∧ u4 = .string O5 ∧ i ≤ S.lk.length ∧ (O5.size : Int) ≤ 1000000 + 300 * i ∧ Hid (bsO O5 = bsO O2 ++ flatT ((S.lk.take i).map linkW)) ∧ Hid (Below V.heap.size V wr)) (fun _ u _ => S.lk.length - (intOf u).toNat)
     case atStart => exact ⟨0, O2, rfl, rfl, Nat.zero_le _, by omega, Lib.hid (List.append_nil _).symm, HB⟩
     case round =>
      clear HB
      obtain ⟨i, O5, rfl, rfl, hi, hos, HLE, HB⟩ := hrel
      have y2 := (HXB.out _ HB.out).2.2
      have hir : S.lk.length ≤ 30 := HV.out.2.2.1
      have hib : (i : Int) ≤ 30 := by omega
      by_cases hlt : i < S.lk.length
      ·obtain ⟨al', cl', ea, _, hc⟩ := HS.out.lk.below (keepBelow HBV.out HB.out)
       cases ea
       obtain ⟨b, o, rfl, hcc⟩ := hc i hlt
       have HNX := Lib.hid (flat_next linkW (L := S.lk) lk0 hlt)
       obtain ⟨x, hx⟩ : ∃ x, S.lk.getD i lk0 = x := ⟨_, rfl⟩
       have hxm : x ∈ S.lk := by rw [← hx]; exact getD_mem hlt
       have HXP := Lib.hid (HV.out.2.2.2.2.2 x hxm)
       rw [hx] at hcc HNX
       clear hc hx hxm
       obtain ⟨nm, zo⟩ := x
       obtain ⟨NM, rfl⟩ := bs_of nm
       obtain ⟨ZN, rfl⟩ := bs_of zo
       have hns : (NM.size : Int) ≤ 30 := by have := (name_wd HXP.out.1).2; rw [bs_len] at this; omega
       have hzs : (ZN.size : Int) ≤ 30 := by have := (name_wd HXP.out.2).2; rw [bs_len] at this; omega
       have e0 : wr.cell? ⟨b, o + i * 2, none⟩ = some (.string NM) := hcc 0 _ (by decide) rfl
       have e1 : wr.cell? ⟨b, o + i * 2 + 1, none⟩ = some (.string ZN) := hcc 1 _ (by decide) rfl
       clear hcc
       have hii : (i : Int) < (S.lk.length : Int) := by omega
       obtain ⟨P75, hP75⟩ : ∃ D : ByteArray, O5 ++ (⟨#[108, 105, 110, 107, 32]⟩ : ByteArray) = D := ⟨_, rfl⟩
       have HP75 := Lib.hid hP75
       have p75 : (P75.size : Int) ≤ 1020005 := by
        rw [← hP75, ByteArray.size_append]
        have : (⟨#[108, 105, 110, 107, 32]⟩ : ByteArray).size = 5 := rfl
        omega
       clear hP75
       obtain ⟨P82, hP82⟩ : ∃ D : ByteArray, P75 ++ NM = D := ⟨_, rfl⟩
       have HP82 := Lib.hid hP82
       have p82 : (P82.size : Int) ≤ 1020035 := by
        rw [← hP82, ByteArray.size_append]
        omega
       clear hP82
       obtain ⟨P83, hP83⟩ : ∃ D : ByteArray, P82 ++ (⟨#[32]⟩ : ByteArray) = D := ⟨_, rfl⟩
       have HP83 := Lib.hid hP83
       have p83 : (P83.size : Int) ≤ 1020036 := by
        rw [← hP83, ByteArray.size_append]
        have : (⟨#[32]⟩ : ByteArray).size = 1 := rfl
        omega
       clear hP83
       obtain ⟨P90, hP90⟩ : ∃ D : ByteArray, P83 ++ ZN = D := ⟨_, rfl⟩
       have HP90 := Lib.hid hP90
       have p90 : (P90.size : Int) ≤ 1020066 := by
        rw [← hP90, ByteArray.size_append]
        omega
       clear hP90
       obtain ⟨P91, hP91⟩ : ∃ D : ByteArray, P90 ++ (⟨#[10]⟩ : ByteArray) = D := ⟨_, rfl⟩
       have HP91 := Lib.hid hP91
       have p91 : (P91.size : Int) ≤ 1020067 := by
        rw [← hP91, ByteArray.size_append]
        have : (⟨#[10]⟩ : ByteArray).size = 1 := rfl
        omega
       clear hP91
       have HN : Hid (bsO P91 = bsO O2 ++ flatT ((S.lk.take (i + 1)).map linkW)) := Lib.hid (by
        rw [← HP91.out, ← HP90.out, ← HP83.out, ← HP82.out, ← HP75.out, bs_app, bs_app, bs_app, bs_app, bs_app, HLE.out, HNX.out]
        simp [linkW, joinT, bsO])
       have HZ : Hid ((P91.size : Int) ≤ 1000000 + 300 * ((i + 1 : Nat) : Int)) := Lib.hid (by
        rw [← HP91.out, ← HP90.out, ← HP83.out, ← HP82.out, ← HP75.out]
        simp only [ByteArray.size_append]
        have : (⟨#[108, 105, 110, 107, 32]⟩ : ByteArray).size = 5 := rfl
        have : (⟨#[10]⟩ : ByteArray).size = 1 := rfl
        have : (⟨#[32]⟩ : ByteArray).size = 1 := rfl
        omega)
       go_upto_region 19 with fail
       refine wp_region_held_drew (S := fun w' => w'.cell? ⟨bx, 2, none⟩ = some (.slice (some ⟨b, o, none⟩) S.lk.length lc) ∧ w'.cell? ⟨b, o + i * 2, none⟩ = some (.string NM) ∧ w'.cell? ⟨b, o + i * 2 + 1, none⟩ = some (.string ZN)) (by kernel_rfl) ?_ (fun hHeld => ?_)
       ·exact ⟨y2, e0, e1⟩
       refine wpAnyH_take (i := 0) (v := ?v12) rfl (by kernel_rfl) (by kernel_rfl) (by kernel_rfl) (fun _ _ _ h => h) (Or.inl ⟨by rfl, ?hy12⟩) (by assumption) ?rest12
       case hy12 =>
        intro w hSw
        try dsimp only at hSw
        go_simp
        try with_reducible rfl
       case rest12 =>
       refine wpAnyH_take (i := 1) (v := .string P75) rfl (by kernel_rfl) (by kernel_rfl) (by kernel_rfl) (fun _ _ _ h => h) (Or.inl ⟨by rfl, ?hy13⟩) (by assumption) ?rest13
       case hy13 =>
        intro w hSw
        clear hSw
        go_simp
        rw [if_neg (by omega)]
        rw [HP75.out]
       case rest13 =>
       refine wpAnyH_take (i := 2) (v := ?v14) rfl (by kernel_rfl) (by kernel_rfl) (by kernel_rfl) (fun _ _ _ h => h) (Or.inl ⟨by rfl, ?hy14⟩) (by assumption) ?rest14
       case hy14 =>
        intro w hSw
        try dsimp only at hSw
        go_simp
        try with_reducible rfl
       case rest14 =>
       refine wpAnyH_take (i := 3) (v := ?v15) rfl (by kernel_rfl) (by kernel_rfl) (by kernel_rfl) (fun _ _ _ h => h) (Or.inl ⟨by rfl, ?hy15⟩) (by assumption) ?rest15
       case hy15 =>
        intro w hSw
        try dsimp only at hSw
        go_simp
        try with_reducible rfl
       case rest15 =>
       refine wpAnyH_take (i := 4) (v := ?v16) rfl (by kernel_rfl) (by kernel_rfl) (by kernel_rfl) (fun _ _ _ h => h) (Or.inl ⟨by rfl, ?hy16⟩) (by assumption) ?rest16
       case hy16 =>
        intro w hSw
        try dsimp only at hSw
        go_simp
        try with_reducible rfl
       case rest16 =>
       refine wpAnyH_take (i := 5) (v := ?v17) rfl (by kernel_rfl) (by kernel_rfl) (by kernel_rfl) (fun _ _ _ h => h) (Or.inl ⟨by rfl, ?hy17⟩) (by assumption) ?rest17
       case hy17 =>
        intro w hSw
        try dsimp only at hSw
        go_simp
        try with_reducible rfl
       case rest17 =>
       refine wpAnyH_take (i := 6) (v := ?v18) rfl (by kernel_rfl) (by kernel_rfl) (by kernel_rfl) (fun _ _ _ h => h) (Or.inl ⟨by rfl, ?hy18⟩) (by assumption) ?rest18
       case hy18 =>
        intro w hSw
        try dsimp only at hSw
        go_simp
        try with_reducible rfl
       case rest18 =>
       refine wpAnyH_take (i := 7) (v := ?v19) rfl (by kernel_rfl) (by kernel_rfl) (by kernel_rfl) (fun _ _ _ h => h) (Or.inl ⟨by rfl, ?hy19⟩) (by assumption) ?rest19
       case hy19 =>
        intro w hSw
        try dsimp only at hSw
        go_simp
        try with_reducible rfl
       case rest19 =>
       refine wpAnyH_take (i := 8) (v := .string P82) rfl (by kernel_rfl) (by kernel_rfl) (by kernel_rfl) (fun _ _ _ h => h) (Or.inl ⟨by rfl, ?hy20⟩) (by assumption) ?rest20
       case hy20 =>
        intro w hSw
        clear hSw
        go_simp
        rw [if_neg (by omega)]
        rw [HP82.out]
       case rest20 =>
       refine wpAnyH_take (i := 9) (v := .string P83) rfl (by kernel_rfl) (by kernel_rfl) (by kernel_rfl) (fun _ _ _ h => h) (Or.inl ⟨by rfl, ?hy21⟩) (by assumption) ?rest21
       case hy21 =>
        intro w hSw
        clear hSw
        go_simp
        rw [if_neg (by omega)]
        rw [HP83.out]
       case rest21 =>
       refine wpAnyH_take (i := 10) (v := ?v22) rfl (by kernel_rfl) (by kernel_rfl) (by kernel_rfl) (fun _ _ _ h => h) (Or.inl ⟨by rfl, ?hy22⟩) (by assumption) ?rest22
       case hy22 =>
        intro w hSw
        try dsimp only at hSw
        go_simp
        try with_reducible rfl
       case rest22 =>
       refine wpAnyH_take (i := 11) (v := ?v23) rfl (by kernel_rfl) (by kernel_rfl) (by kernel_rfl) (fun _ _ _ h => h) (Or.inl ⟨by rfl, ?hy23⟩) (by assumption) ?rest23
       case hy23 =>
        intro w hSw
        try dsimp only at hSw
        go_simp
        try with_reducible rfl
       case rest23 =>
       refine wpAnyH_take (i := 12) (v := ?v24) rfl (by kernel_rfl) (by kernel_rfl) (by kernel_rfl) (fun _ _ _ h => h) (Or.inl ⟨by rfl, ?hy24⟩) (by assumption) ?rest24
       case hy24 =>
        intro w hSw
        try dsimp only at hSw
        go_simp
        try with_reducible rfl
       case rest24 =>
       refine wpAnyH_take (i := 13) (v := ?v25) rfl (by kernel_rfl) (by kernel_rfl) (by kernel_rfl) (fun _ _ _ h => h) (Or.inl ⟨by rfl, ?hy25⟩) (by assumption) ?rest25
       case hy25 =>
        intro w hSw
        try dsimp only at hSw
        go_simp
        try with_reducible rfl
       case rest25 =>
       refine wpAnyH_take (i := 14) (v := ?v26) rfl (by kernel_rfl) (by kernel_rfl) (by kernel_rfl) (fun _ _ _ h => h) (Or.inl ⟨by rfl, ?hy26⟩) (by assumption) ?rest26
       case hy26 =>
        intro w hSw
        try dsimp only at hSw
        go_simp
        try with_reducible rfl
       case rest26 =>
       refine wpAnyH_take (i := 15) (v := ?v27) rfl (by kernel_rfl) (by kernel_rfl) (by kernel_rfl) (fun _ _ _ h => h) (Or.inl ⟨by rfl, ?hy27⟩) (by assumption) ?rest27
       case hy27 =>
        intro w hSw
        try dsimp only at hSw
        go_simp
        try with_reducible rfl
       case rest27 =>
       refine wpAnyH_take (i := 16) (v := .string P90) rfl (by kernel_rfl) (by kernel_rfl) (by kernel_rfl) (fun _ _ _ h => h) (Or.inl ⟨by rfl, ?hy28⟩) (by assumption) ?rest28
       case hy28 =>
        intro w hSw
        clear hSw
        go_simp
        rw [if_neg (by omega)]
        rw [HP90.out]
       case rest28 =>
       refine wpAnyH_take (i := 17) (v := .string P91) rfl (by kernel_rfl) (by kernel_rfl) (by kernel_rfl) (fun _ _ _ h => h) (Or.inl ⟨by rfl, ?hy29⟩) (by assumption) ?rest29
       case hy29 =>
        intro w hSw
        clear hSw
        go_simp
        rw [if_neg (by omega)]
        rw [HP91.out]
       case rest29 =>
       refine wpAnyH_take (i := 18) (v := ?v30) rfl (by kernel_rfl) (by kernel_rfl) (by kernel_rfl) (fun _ _ _ h => h) (Or.inl ⟨by rfl, ?hy30⟩) (by assumption) ?rest30
       case hy30 =>
        intro w hSw
        try dsimp only at hSw
        go_simp
        try with_reducible rfl
       case rest30 =>
       refine wpAnyH_done (by kernel_rfl) ?_ _
       go_wp2_with fail
       go_roundw
       case rel => exact ⟨i + 1, P91, by go_num, rfl, hlt, HZ.out, HN, Lib.hid HB.out.drew⟩
       case measure => simp [intOf]; omega
      ·obtain rfl : i = S.lk.length := by omega
       have HFL : Hid (bsO O5 = flatT (wordsT S)) := Lib.hid (by rw [HLE.out, List.take_length, HLE2.out, HWT.out, flatT_app, flatT_app])
       have HTM3 : Hid ((bsO TT, te) = if 65536 < O5.size then ([], 5) else (bsO O5, 0)) := Lib.hid (by rw [HTM2.out, ← HFL.out, bs_len])
       by_cases h6 : 65536 < O5.size
       ·obtain ⟨hT1, hT2⟩ : bsO TT = [] ∧ te = 5 := by
         have q := HTM3.out
         rw [if_pos h6] at q
         injection q with q1 q2
         exact ⟨q1, q2⟩
        have h7 : (65536 : Int) < (O5.size : Int) := by omega
        have HNO := Lib.hid (ret_tt (A := ⟨#[]⟩) hT1 hT2)
        clear h6 hT1 hT2
        go_wp2_with fail
        go_ret2
        exact ⟨HNO.out, keepBelow HBV.out HB.out⟩
       ·obtain ⟨hT1, hT2⟩ : bsO TT = bsO O5 ∧ te = 0 := by
         have q := HTM3.out
         rw [if_neg h6] at q
         injection q with q1 q2
         exact ⟨q1, q2⟩
        have h7 : ¬ (65536 : Int) < (O5.size : Int) := by omega
        have HNO := Lib.hid (ret_tt hT1 hT2)
        clear h6 hT1 hT2
        go_wp2_with fail
        go_ret2
        exact ⟨HNO.out, keepBelow HBV.out HB.out⟩
end Go.Proofs.YtlbglinpgjlbkaaGreatDoor
