import Derived.Test.YtlbglinpgjlbkaaGreatDoorWkC5
import Derived.Test.YtlbglinpgjlbkaaGreatDoorWkPn
import Derived.Sort.Walk0
/- Zone texts: the names of a source, as the reference has them. Printed by gen_nm.py. No conditions. -/
namespace Go.Proofs.YtlbglinpgjlbkaaGreatDoor
open Go.RowKit Wk

theorem Tryz.infoNm : (Tryz.prog.info? 9).map (fun i => (i.zero, i.size, i.bytes)) = some (some (.string ⟨#[]⟩), 1, 16) := by kernel_rfl
theorem flS_len (x : Bs) : (flS x).length = 1 := rfl
theorem lessB (a b : ByteArray) : Op.bytesLess a.toList b.toList = decide (bsO a < bsO b) := by rw [bytesLess_eq, Lib.toList_data, Lib.toList_data]
set_option maxRecDepth 100000 in
set_option maxHeartbeats 4000000 in
theorem put_any (v : Value) (L : List Bs) (N : ByteArray) (w : World) (h : RdSt w v L) (hl : L.length ≤ 1000) :
  Calls Tryz.prog 111 #[v, .string N] w fun e w' => (∃ u, e = .returned u ∧ OwnG 9 1 flS w' w.heap.size u (putM L (bsO N))) ∧ Below w.heap.size w w' := by
 have HZ := Lib.hid h
 obtain ⟨a, c, rfl⟩ := h.form
 clear h
 go_enter Tryz.func111, Tryz.ntmps111
 go_wp2_with fail
 go_loopw [5, 6, 7] (fun u5 u6 u7 wr => ∃ (i : Nat) (dn : Bool) (O : List Bs), u7 = .int .i64 i ∧ u6 = .bool dn ∧ i ≤ L.length ∧ O.length ≤ 2 * i ∧ Hid (O ++ (if dn = true then L.drop i else putM (L.drop i) (bsO N)) = putM L (bsO N)) ∧ OwnG 9 1 flS wr w.heap.size u5 O ∧ Hid (Below w.heap.size w wr)) (fun _ _ u _ => L.length - (intOf u).toNat)
 case atStart => exact ⟨0, false, [], rfl, rfl, Nat.zero_le _, Nat.zero_le _, Lib.hid rfl, OwnG.nil _ _, Below.refl _ _⟩
 case round =>
  obtain ⟨i, dn, O, rfl, rfl, hi, hOl, HE, hO, HB⟩ := hrel
  have hib : (i : Int) ≤ 1000 := by omega
  have HOW := Lib.hid hO
  obtain ⟨a5, c5, rfl⟩ := hO.form
  clear hO
  have hOn : O.length < 1000000 := by omega
  by_cases hlt : i < L.length
  ·obtain ⟨al', cl', ea, _, hc⟩ := HZ.out
   cases ea
   obtain ⟨b, o, rfl, hcc⟩ := hc i hlt
   obtain ⟨x, hx⟩ : ∃ x, L.getD i [] = x := ⟨_, rfl⟩
   have HDR : Hid (L.drop i = x :: L.drop (i + 1)) := Lib.hid (by rw [drop_at [] hlt, hx])
   rw [hx] at hcc
   clear hc hx
   obtain ⟨NM, rfl⟩ := bs_of x
   have E0 : Hid (w.cell? ⟨b, o + i, none⟩ = some (.string NM)) := Lib.hid (by have := hcc 0 _ (by decide) rfl; rw [Nat.mul_one] at this; exact this)
   have e0 := keepCell HB.out E0.out
   clear hcc
   have hll : (i : Int) < (L.length : Int) := by omega
   generalize wr = W2 at *
   cases dn with
   | true =>
    have HN : Hid ((O ++ [bsO NM]) ++ (if true = true then L.drop (i + 1) else putM (L.drop (i + 1)) (bsO N)) = putM L (bsO N)) := Lib.hid (by
     rw [← HE.out, if_pos rfl, if_pos rfl, HDR.out, List.append_assoc]
     rfl)
    go_wp2_with (at_builtin; refine wpList_app_G (z := (bsO NM : Bs)) (w0 := w) (B := w.heap.size) flS_len (by decide) Tryz.underlying71 Tryz.infoNm rfl (by decide) rfl (.tmp 28) (.tmp 33) rfl rfl HOW.out (Nat.le_refl _) HB.out.size HB.out (by intro u hu; simp [flS] at hu; subst hu; rfl) rfl rfl hOn rfl ?_; intro v3 V3 o3 b3 k3 g3 z3; clear k3 g3 z3)
    go_roundw
    case rel => exact ⟨i + 1, true, _, by go_num, rfl, by omega, by rw [List.length_append]; simp; omega, HN, o3, Lib.hid b3⟩
    case measure => simp [intOf]; omega
   | false =>
    by_cases hn : bsO N < bsO NM
    ·have g1 : Op.bytesLess N.toList NM.toList = true := by rw [lessB]; exact decide_eq_true hn
     have HN : Hid (((O ++ [bsO N]) ++ [bsO NM]) ++ (if true = true then L.drop (i + 1) else putM (L.drop (i + 1)) (bsO N)) = putM L (bsO N)) := Lib.hid (by
      rw [← HE.out, if_pos rfl, if_neg (by simp), HDR.out, putM, if_pos hn, List.append_assoc, List.append_assoc]
      rfl)
     clear hn
     go_upto_region 8 with (at_builtin; refine wpList_app_G (z := (bsO N : Bs)) (w0 := w) (B := w.heap.size) flS_len (by decide) Tryz.underlying71 Tryz.infoNm rfl (by decide) rfl (.tmp 24) (.tmp 26) rfl rfl HOW.out (Nat.le_refl _) HB.out.size HB.out (by intro u hu; simp [flS] at hu; subst hu; rfl) rfl rfl hOn rfl ?_; intro v4 V4 o4 b4 k4 g4 z4; clear k4 g4 z4; have hO4 : (O ++ [bsO N]).length < 1000000 := by rw [List.length_append]; simp; omega)
     have e4 := keepCell b4 E0.out
     go_wp2_with (at_builtin; refine wpList_app_G (z := (bsO NM : Bs)) (w0 := w) (B := w.heap.size) flS_len (by decide) Tryz.underlying71 Tryz.infoNm rfl (by decide) rfl (.tmp 28) (.tmp 33) rfl rfl o4 (Nat.le_refl _) b4.size b4 (by intro u hu; simp [flS] at hu; subst hu; rfl) rfl rfl hO4 rfl ?_; intro v3 V3 o3 b3 k3 g3 z3; clear k3 g3 z3)
     go_roundw
     case rel => exact ⟨i + 1, true, _, by go_num, rfl, by omega, by rw [List.length_append, List.length_append]; simp; omega, HN, o3, Lib.hid b3⟩
     case measure => simp [intOf]; omega
    ·have g1 : Op.bytesLess N.toList NM.toList = false := by rw [lessB]; exact decide_eq_false hn
     have HN : Hid ((O ++ [bsO NM]) ++ (if false = true then L.drop (i + 1) else putM (L.drop (i + 1)) (bsO N)) = putM L (bsO N)) := Lib.hid (by
      rw [← HE.out, if_neg (by simp), if_neg (by simp), HDR.out, putM, if_neg hn, List.append_assoc]
      rfl)
     clear hn
     go_wp2_with (at_builtin; refine wpList_app_G (z := (bsO NM : Bs)) (w0 := w) (B := w.heap.size) flS_len (by decide) Tryz.underlying71 Tryz.infoNm rfl (by decide) rfl (.tmp 28) (.tmp 33) rfl rfl HOW.out (Nat.le_refl _) HB.out.size HB.out (by intro u hu; simp [flS] at hu; subst hu; rfl) rfl rfl hOn rfl ?_; intro v3 V3 o3 b3 k3 g3 z3; clear k3 g3 z3)
     go_roundw
     case rel => exact ⟨i + 1, false, _, by go_num, rfl, by omega, by rw [List.length_append]; simp; omega, HN, o3, Lib.hid b3⟩
     case measure => simp [intOf]; omega
  ·obtain rfl : i = L.length := by omega
   generalize wr = W2 at *
   cases dn with
   | true =>
    have HN : Hid (O = putM L (bsO N)) := Lib.hid (by rw [← HE.out, if_pos rfl, List.drop_length, List.append_nil])
    go_wp2_with fail
    go_ret
    exact ⟨⟨_, rfl, by rw [← HN.out]; exact HOW.out⟩, HB.out⟩
   | false =>
    have HN : Hid (O ++ [bsO N] = putM L (bsO N)) := Lib.hid (by rw [← HE.out, if_neg (by simp), List.drop_length]; rfl)
    go_wp2_with (at_builtin; refine wpList_app_G (z := (bsO N : Bs)) (w0 := w) (B := w.heap.size) flS_len (by decide) Tryz.underlying71 Tryz.infoNm rfl (by decide) rfl (.tmp 37) (.tmp 39) rfl rfl HOW.out (Nat.le_refl _) HB.out.size HB.out (by intro u hu; simp [flS] at hu; subst hu; rfl) rfl rfl hOn rfl ?_; intro v3 V3 o3 b3 k3 g3 z3; clear k3 g3 z3)
    go_ret
    exact ⟨⟨_, rfl, by rw [← HN.out]; exact o3⟩, b3⟩
theorem fold_next {α : Type} (f : α → Bs) {L : List α} {i : Nat} (d : α) (h : i < L.length) (a : List Bs) : ((L.take (i + 1)).map f).foldl putM a = putM (((L.take i).map f).foldl putM a) (f (L.getD i d)) := by
 rw [take_nx d h, List.map_append, List.foldl_append]
 rfl
theorem fold_len (l : List Bs) : (l.foldl putM []).length = l.length := by
 have := (fold_pw l (a := []) List.Pairwise.nil).2.length_eq
 simpa using this
set_option maxRecDepth 100000 in
set_option maxHeartbeats 4000000 in
theorem names19_any (rv zv lv : Value) (S : SrT) (Z : List ZkT) (w : World) (hs : RdSr w rv zv lv S Z) (hz : SzS S) :
  Calls Tryz.prog 39 #[.agg #[rv, zv, lv]] w fun e w' => (∃ u, e = .returned u ∧ OwnG 9 1 flS w' w.heap.size u (namesM S)) ∧ Below w.heap.size w w' := by
 have HVA : Hid (∀ W, Below w.heap.size w W → Calls Tryz.prog 24 #[.agg #[rv, zv, lv]] W fun e w' => e = .returned (.bool (validB S)) ∧ Below W.heap.size W w') := Lib.hid fun W hW => valid19_any rv zv lv S Z W (hs.below hW) hz
 have HVP : Hid (validB S = true → Z.length ≤ 30 ∧ S.lk.length ≤ 30) := Lib.hid fun h => by
  obtain ⟨-, h2, -⟩ := valid_parts h
  rw [← hs.zs, List.length_map] at h2
  exact ⟨by omega, by omega⟩
 have HNM : Hid (namesM S = if validB S = true then (Z.map (fun z => z.1.nm) ++ S.lk.map LkT.nm).mergeSort (fun x y => decide (x ≤ y)) else []) := Lib.hid (by
  unfold namesM
  rw [← hs.zs, List.map_map]
  rfl)
 obtain ⟨nm, hnm⟩ : ∃ t, namesM S = t := ⟨_, rfl⟩
 rw [hnm] at HNM ⊢
 obtain ⟨q, hq⟩ : ∃ q, validB S = q := ⟨_, rfl⟩
 rw [hq] at HVA HVP HNM
 clear hnm hq
 obtain ⟨ra, rc, rfl⟩ := hs.ru.form
 obtain ⟨za, zc, rfl⟩ := hs.zo.row.form
 obtain ⟨la, lc, rfl⟩ := hs.lk.form
 have HS := Lib.hid hs
 clear hs hz
 go_enter Tryz.func39, Tryz.ntmps39
 go_upto_region 1 with fail
 obtain ⟨bx, hbx⟩ : ∃ b, w.heap.size = b := ⟨_, rfl⟩
 obtain ⟨X, hX⟩ : ∃ Y, w.alloc (.cells #[.slice ra S.ru.length rc, .slice za Z.length zc, .slice la S.lk.length lc] 27) = Y := ⟨_, rfl⟩
 have HBX : Hid (Below w.heap.size w X) := Lib.hid (by rw [← hX]; exact (Below.refl _ _).alloc (Nat.le_refl _) _)
 have HXK : Hid (Blk X bx #[.slice ra S.ru.length rc, .slice za Z.length zc, .slice la S.lk.length lc] 27) := Lib.hid (by rw [← hX, ← hbx]; exact Blk.new _ _ _)
 try rw [hX]
 try rw [hbx]
 clear hX hbx
 have x0 := HXK.out.cell (j := 0) rfl
 have x1 := HXK.out.cell (j := 1) rfl
 have x2 := HXK.out.cell (j := 2) rfl
 cases q with
 | false =>
  have HN : Hid (OwnG 9 1 flS w w.heap.size (.slice none 0 0) nm) := Lib.hid (by rw [HNM.out, if_neg (by simp)]; exact OwnG.nil _ _)
  go_wp2_with (first | (go_at_call 24; refine (HVA.out _ HBX.out).mono ?_; rintro e w2 ⟨rfl, hb2⟩) | fail)
  go_ret
  exact ⟨⟨_, rfl, HN.out.below (keepBelow HBX.out hb2)⟩, keepBelow HBX.out hb2⟩
 | true =>
 have HNM2 : Hid (nm = (Z.map (fun z => z.1.nm) ++ S.lk.map LkT.nm).foldl putM []) := Lib.hid (by rw [HNM.out, if_pos rfl, fold_sort])
 have HV := Lib.hid (HVP.out rfl)
 clear HNM HVP
 go_upto_region 4 with (first | (go_at_call 24; refine (HVA.out _ HBX.out).mono ?_; rintro e w2 ⟨rfl, hb2⟩; obtain ⟨V, hV⟩ : ∃ W, w2 = W := ⟨_, rfl⟩; rw [hV] at hb2 ⊢; clear hV; have HBV := Lib.hid (keepBelow HBX.out hb2); have HXV := Lib.hid (HXK.out.below hb2); clear hb2) | fail)
 clear x0 x1 x2 HXK HVA
 go_upto_region 5 with fail
 go_loopw [3, 4] (fun u3 u wr => ∃ i : Nat, u = .int .i64 i ∧ i ≤ Z.length ∧ OwnG 9 1 flS wr V.heap.size u3 (((Z.take i).map (fun z => z.1.nm)).foldl putM []) ∧ Hid (Below V.heap.size V wr)) (fun _ u _ => Z.length - (intOf u).toNat)
 case atStart => exact ⟨0, rfl, Nat.zero_le _, OwnG.nil _ _, Below.refl _ _⟩
 case round =>
  obtain ⟨i, rfl, hi, hO, HB⟩ := hrel
  have hzl := HV.out.1
  have hib : (i : Int) ≤ 30 := by omega
  have y1 := (HXV.out.below HB.out).cell (j := 1) rfl
  by_cases hlt : i < Z.length
  ·obtain ⟨al', cl', ea, _, hc⟩ := HS.out.zo.row.below (keepBelow HBV.out HB.out)
   cases ea
   obtain ⟨b, o, rfl, hcc⟩ := hc i hlt
   obtain ⟨x, hx⟩ : ∃ x, Z.getD i zk0 = x := ⟨_, rfl⟩
   have HFN := Lib.hid (fold_next (fun z : ZkT => z.1.nm) zk0 hlt [])
   rw [hx] at hcc HFN
   clear hc hx
   obtain ⟨⟨n0, li⟩, l0⟩ := x
   obtain ⟨NM, rfl⟩ := bs_of n0
   have e0 : wr.cell? ⟨b, o + i * 2, none⟩ = some (.string NM) := hcc 0 _ (by decide) rfl
   clear hcc
   have hll : (i : Int) < (Z.length : Int) := by omega
   have HLN : Hid ((((Z.take i).map (fun z => z.1.nm)).foldl putM []).length ≤ 1000) := Lib.hid (by rw [fold_len, List.length_map, List.length_take]; omega)
   obtain ⟨Q, hQ⟩ : ∃ Q, ((Z.take i).map (fun z => z.1.nm)).foldl putM [] = Q := ⟨_, rfl⟩
   rw [hQ] at hO HFN HLN
   clear hQ
   have HPU := Lib.hid (put_any _ Q NM wr (hO.rd flS_len (by have := HLN.out; omega)) HLN.out)
   obtain ⟨a3, c3, rfl⟩ := hO.form
   clear hO
   go_wp2_with (first | (go_at_call 111; refine HPU.out.mono ?_; rintro e w3 ⟨⟨u3, rfl, ho3⟩, hb3⟩) | fail)
   go_roundw
   case rel => exact ⟨i + 1, by go_num, by omega, by rw [HFN.out]; exact ho3.mono HB.out.size, Lib.hid (keepBelow HB.out hb3)⟩
   case measure => simp [intOf]; omega
  ·obtain rfl : i = Z.length := by omega
   rw [List.take_length] at hO
   have HOW := Lib.hid hO
   obtain ⟨a3, c3, e3⟩ := hO.form
   rw [e3] at HOW ⊢
   clear hO e3
   go_upto_region 9 with fail
   generalize wr = W1 at *
   go_loopw [3, 5] (fun u3 u wr => ∃ i : Nat, u = .int .i64 i ∧ i ≤ S.lk.length ∧ OwnG 9 1 flS wr V.heap.size u3 (((S.lk.take i).map LkT.nm).foldl putM ((Z.map (fun z => z.1.nm)).foldl putM [])) ∧ Hid (Below V.heap.size V wr)) (fun _ u _ => S.lk.length - (intOf u).toNat)
   case atStart => exact ⟨0, rfl, Nat.zero_le _, HOW.out, HB⟩
   case round =>
    clear HB HOW y1
    obtain ⟨i, rfl, hi, hO, HB⟩ := hrel
    have hkl := HV.out.2
    have hib : (i : Int) ≤ 30 := by omega
    have y2 := (HXV.out.below HB.out).cell (j := 2) rfl
    by_cases hlt : i < S.lk.length
    ·obtain ⟨al', cl', ea, _, hc⟩ := HS.out.lk.below (keepBelow HBV.out HB.out)
     cases ea
     obtain ⟨b, o, rfl, hcc⟩ := hc i hlt
     obtain ⟨x, hx⟩ : ∃ x, S.lk.getD i lk0 = x := ⟨_, rfl⟩
     have HFN := Lib.hid (fold_next LkT.nm lk0 hlt ((Z.map (fun z => z.1.nm)).foldl putM []))
     rw [hx] at hcc HFN
     clear hc hx
     obtain ⟨n0, z0⟩ := x
     obtain ⟨NM, rfl⟩ := bs_of n0
     have e0 : wr.cell? ⟨b, o + i * 2, none⟩ = some (.string NM) := hcc 0 _ (by decide) rfl
     clear hcc
     have hll : (i : Int) < (S.lk.length : Int) := by omega
     have HLN : Hid ((((S.lk.take i).map LkT.nm).foldl putM ((Z.map (fun z => z.1.nm)).foldl putM [])).length ≤ 1000) := Lib.hid (by rw [← List.foldl_append, fold_len, List.length_append, List.length_map, List.length_map, List.length_take]; omega)
     obtain ⟨Q, hQ⟩ : ∃ Q, ((S.lk.take i).map LkT.nm).foldl putM ((Z.map (fun z => z.1.nm)).foldl putM []) = Q := ⟨_, rfl⟩
     rw [hQ] at hO HFN HLN
     clear hQ
     have HPU := Lib.hid (put_any _ Q NM wr (hO.rd flS_len (by have := HLN.out; omega)) HLN.out)
     obtain ⟨a3, c3, rfl⟩ := hO.form
     clear hO
     go_wp2_with (first | (go_at_call 111; refine HPU.out.mono ?_; rintro e w3 ⟨⟨u3, rfl, ho3⟩, hb3⟩) | fail)
     go_roundw
     case rel => exact ⟨i + 1, by go_num, by omega, by rw [HFN.out]; exact ho3.mono HB.out.size, Lib.hid (keepBelow HB.out hb3)⟩
     case measure => simp [intOf]; omega
    ·obtain rfl : i = S.lk.length := by omega
     rw [List.take_length, ← List.foldl_append, ← HNM2.out] at hO
     have HOW := Lib.hid hO
     obtain ⟨a3, c3, e3⟩ := hO.form
     rw [e3] at HOW ⊢
     clear hO e3
     go_wp2_with fail
     go_ret
     exact ⟨⟨_, rfl, HOW.out.mono HBV.out.size⟩, keepBelow HBV.out HB.out⟩
end Go.Proofs.YtlbglinpgjlbkaaGreatDoor
