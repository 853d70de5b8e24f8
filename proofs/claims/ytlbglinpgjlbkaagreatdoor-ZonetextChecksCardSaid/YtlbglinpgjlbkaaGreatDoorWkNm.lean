import Derived.Test.YtlbglinpgjlbkaaGreatDoorWkNr
import Derived.Test.YtlbglinpgjlbkaaGreatDoorWkShelfV
import Derived.Sort.OwnSorted
/- Zone texts: the names of a source. Printed by gen_nm.py. No conditions. -/
namespace Go.Proofs.YtlbglinpgjlbkaaGreatDoor
open Go.RowKit Wk Go.Sort

def zkNm (z : ZkT) : Bs := z.1.nm
theorem flat_enc (L : List Bs) : flatG flS L = L.map encStr := by
 induction L with
 | nil => rfl
 | cons x r ih =>
  show flS x ++ flatG flS r = _
  rw [ih]
  rfl
theorem sortS_own (v : Value) (L : List Bs) (w0 W : World) (h : OwnG 9 1 flS W w0.heap.size v L) (hb : Below w0.heap.size w0 W) (hl : L.length < 1000000) :
  Calls Tryz.prog 110 #[v] W fun e w' => e = .returned (.tuple #[]) ∧ OwnG 9 1 flS w' w0.heap.size v (L.mergeSort fun x y => decide (x ≤ y)) ∧ Below w0.heap.size w0 w' := by
 obtain ⟨h1, h2⟩ := h
 rcases h2 with ⟨rfl, h0⟩ | ⟨g, cap, cur, rfl, hg, hgg, hn, hcap, hsz, htk⟩
 ·obtain rfl : L = [] := List.eq_nil_of_length_eq_zero h0
  exact (Tryz.slices_Sort_string_none none 0 W).mono fun e w' ⟨he, hw⟩ => by subst hw; exact ⟨he, by rw [List.mergeSort_nil]; exact OwnG.nil _ _, hb⟩
 ·rw [Nat.mul_one, flat_enc] at htk
  have hH : Holds encStr W g 0 L.toArray := holds_of_block hgg htk
  refine (Tryz.slices_Sort_string g 0 cap L W hH (Array.getElem?_eq_some_iff.1 hgg).1 (by omega)).mono ?_
  rintro e w' ⟨he, n, os, rfl⟩
  refine ⟨he, ?_, hb.grown (grownBy_sorted _) hb.size (fun k hk => by cases hk; exact hg)⟩
  have hl2 : (L.mergeSort fun x y => decide (x ≤ y)).length = L.length := by simp
  have := ownsRow_sorted (w := W) (base := w0.heap.size) (g := g) (cap := cap) (n := n) (e := 9) (os := os) (cur := cur) (ss := L) (ts := L.mergeSort fun x y => decide (x ≤ y)) hl2 hg hgg hn hcap hsz
  unfold OwnG
  rw [flat_enc, hl2]
  exact this
set_option maxRecDepth 100000 in
set_option maxHeartbeats 4000000 in
theorem names_any (rv zv lv : Value) (S : SrT) (Z : List ZkT) (w : World) (hs : RdSr w rv zv lv S Z) (hz : SzS S) (hg : Glob w) (hcz : CapV zv) (hcl : CapV lv) :
  Calls Tryz.prog 38 #[.agg #[rv, zv, lv]] w fun e w' => (∃ u, e = .returned u ∧ OwnG 9 1 flS w' w.heap.size u (namesM S)) ∧ Below w.heap.size w w' := by
 have HVA : Hid (∀ W, Below w.heap.size w W → Calls Tryz.prog 35 #[.agg #[rv, zv, lv]] W fun e w' => e = .returned (.bool (validB S)) ∧ Below W.heap.size W w') := Lib.hid fun W hW => valid_any rv zv lv S Z W (hs.below hW) hz (hg.below hW) hcz hcl
 have HVP : Hid (validB S = true → Z.length ≤ 30 ∧ S.lk.length ≤ 30) := Lib.hid fun h => by
  obtain ⟨-, h2, -⟩ := valid_parts h
  rw [← hs.zs, List.length_map] at h2
  exact ⟨by omega, by omega⟩
 have HNM : Hid (namesM S = if validB S = true then (Z.map zkNm ++ S.lk.map LkT.nm).mergeSort (fun x y => decide (x ≤ y)) else []) := Lib.hid (by
  unfold namesM
  rw [← hs.zs, List.map_map]
  rfl)
 obtain ⟨nm, hnm⟩ : ∃ t, namesM S = t := ⟨_, rfl⟩
 rw [hnm] at HNM ⊢
 obtain ⟨q, hq⟩ : ∃ q, validB S = q := ⟨_, rfl⟩
 rw [hq] at HVA HVP HNM
 clear hnm hq
 obtain ⟨ra, rc, rfl⟩ := hs.ru.form
 obtain ⟨za, zc, rfl⟩ := hs.zo.row.form
 obtain ⟨la, lc, rfl⟩ := hs.lk.form
 have HS := Lib.hid hs
 clear hs hz hg hcz hcl
 go_enter Tryz.func38, Tryz.ntmps38
 go_upto_region 1 with fail
 obtain ⟨bx, hbx⟩ : ∃ b, w.heap.size = b := ⟨_, rfl⟩
 obtain ⟨X, hX⟩ : ∃ Y, w.alloc (.cells #[.slice ra S.ru.length rc, .slice za Z.length zc, .slice la S.lk.length lc] 27) = Y := ⟨_, rfl⟩
 have HBX : Hid (Below w.heap.size w X) := Lib.hid (by rw [← hX]; exact (Below.refl _ _).alloc (Nat.le_refl _) _)
 have HXK : Hid (Blk X bx #[.slice ra S.ru.length rc, .slice za Z.length zc, .slice la S.lk.length lc] 27) := Lib.hid (by rw [← hX, ← hbx]; exact Blk.new _ _ _)
 try rw [hX]
 try rw [hbx]
 clear hX hbx
 have x0 := HXK.out.cell (j := 0) rfl
 have x1 := HXK.out.cell (j := 1) rfl
 have x2 := HXK.out.cell (j := 2) rfl
 cases q with
 | false =>
  have HN : Hid (OwnG 9 1 flS w w.heap.size (.slice none 0 0) nm) := Lib.hid (by rw [HNM.out, if_neg (by simp)]; exact OwnG.nil _ _)
  go_wp2_with (first | (go_at_call 35; refine (HVA.out _ HBX.out).mono ?_; rintro e w2 ⟨rfl, hb2⟩) | fail)
  go_ret
  exact ⟨⟨_, rfl, HN.out.below (keepBelow HBX.out hb2)⟩, keepBelow HBX.out hb2⟩
 | true =>
 have HNM2 : Hid (nm = (Z.map zkNm ++ S.lk.map LkT.nm).mergeSort (fun x y => decide (x ≤ y))) := Lib.hid (by rw [HNM.out, if_pos rfl])
 have HV := Lib.hid (HVP.out rfl)
 clear HNM HVP
 go_upto_region 4 with (first | (go_at_call 35; refine (HVA.out _ HBX.out).mono ?_; rintro e w2 ⟨rfl, hb2⟩; obtain ⟨V, hV⟩ : ∃ W, w2 = W := ⟨_, rfl⟩; rw [hV] at hb2 ⊢; clear hV; have HBV := Lib.hid (keepBelow HBX.out hb2); have HXV := Lib.hid (HXK.out.below hb2); clear hb2) | fail)
 clear x0 x1 x2 HXK HVA
 have hzl := HV.out.1
 have hkl := HV.out.2
 have y1 := HXV.out.cell (j := 1) rfl
 go_upto_region 5 with fail
 clear y1
 go_loopw [3, 5, 14] (fun u3 _ u wr => ∃ i : Nat, u = .int .i64 i ∧ i ≤ Z.length ∧ OwnG 9 1 flS wr V.heap.size u3 ((Z.take i).map zkNm) ∧ Hid (Below V.heap.size V wr)) (fun _ _ u _ => Z.length - (intOf u).toNat)
 case atStart => exact ⟨0, rfl, Nat.zero_le _, OwnG.nil _ _, Below.refl _ _⟩
 case round =>
  obtain ⟨i, rfl, hi, hO, HB⟩ := hrel
  have hib : (i : Int) ≤ 30 := by omega
  by_cases hlt : i < Z.length
  ·obtain ⟨al', cl', ea, _, hc⟩ := HS.out.zo.row.below (keepBelow HBV.out HB.out)
   cases ea
   obtain ⟨b, o, rfl, hcc⟩ := hc i hlt
   obtain ⟨x, hx⟩ : ∃ x, Z.getD i zk0 = x := ⟨_, rfl⟩
   have HFN : Hid ((Z.take (i + 1)).map zkNm = (Z.take i).map zkNm ++ [zkNm (Z.getD i zk0)]) := Lib.hid (by rw [take_nx zk0 hlt, List.map_append]; first | rfl | exact (List.append_assoc _ _ _).symm)
   have hli := HS.out.zo.li i hlt
   rw [hx] at hcc HFN hli
   clear hc hx
   obtain ⟨⟨n0, li⟩, l0⟩ := x
   obtain ⟨NM, rfl⟩ := bs_of n0
   obtain ⟨a2, n2, rfl⟩ : ∃ a c, l0 = .slice a li.length c := RdG.form hli
   clear hli
   have e0 : wr.cell? ⟨b, o + i * 2, none⟩ = some (.string NM) := hcc 0 _ (by decide) rfl
   have e1 : wr.cell? ⟨b, o + i * 2 + 1, none⟩ = some (.slice a2 li.length n2) := hcc 1 _ (by decide) rfl
   clear hcc
   have hll : (i : Int) < (Z.length : Int) := by omega
   have HLN : Hid (((Z.take i).map zkNm).length < 1000000) := Lib.hid (by simp only [List.length_map, List.length_take]; omega)
   obtain ⟨Q, hQ⟩ : ∃ Q, (Z.take i).map zkNm = Q := ⟨_, rfl⟩
   rw [hQ] at hO HFN HLN
   clear hQ
   have HOW := Lib.hid hO
   obtain ⟨a3, c3, rfl⟩ := hO.form
   clear hO
   generalize wr = W2 at *
   go_upto_region 7 with fail
   obtain ⟨b6, hb6⟩ : ∃ b, W2.heap.size = b := ⟨_, rfl⟩
   obtain ⟨Y, hY⟩ : ∃ Y, W2.alloc (.cells #[.string NM, .slice a2 li.length n2] 45) = Y := ⟨_, rfl⟩
   have HBY : Hid (Below W2.heap.size W2 Y) := Lib.hid (by rw [← hY]; exact (Below.refl _ _).alloc (Nat.le_refl _) _)
   have HK : Hid (Blk Y b6 #[.string NM, .slice a2 li.length n2] 45) := Lib.hid (by rw [← hY, ← hb6]; exact Blk.new _ _ _)
   try rw [hY]
   try rw [hb6]
   clear hY hb6
   have HOY := Lib.hid (HOW.out.below HBY.out)
   have HBW := Lib.hid (keepBelow HB.out HBY.out)
   have u0 := HK.out.cell (j := 0) rfl
   go_wp2_with (at_builtin; refine wpList_app_G (z := (bsO NM : Bs)) (w0 := V) (B := V.heap.size) flS_len (by decide) Tryz.underlying71 Tryz.infoNm rfl (by decide) rfl (.tmp 18) (.tmp 21) rfl rfl HOY.out (Nat.le_refl _) HBW.out.size HBW.out (by intro u hu; simp [flS] at hu; subst hu; rfl) rfl rfl HLN.out rfl ?_; intro v3 V3 o3 b3 k3 g3 z3; clear k3 g3 z3)
   go_roundw
   case rel => exact ⟨i + 1, by go_num, by omega, by rw [HFN.out]; exact o3, Lib.hid b3⟩
   case measure => simp [intOf]; omega
  ·obtain rfl : i = Z.length := by omega
   rw [List.take_length] at hO
   have HOW := Lib.hid hO
   obtain ⟨a3, c3, e3⟩ := hO.form
   rw [e3] at HOW ⊢
   clear hO e3
   have y2 := (HXV.out.below HB.out).cell (j := 2) rfl
   go_upto_region 10 with fail
   clear y2
   generalize wr = W1 at *
   go_loopw [3, 7, 27] (fun u3 _ u wr => ∃ i : Nat, u = .int .i64 i ∧ i ≤ S.lk.length ∧ OwnG 9 1 flS wr V.heap.size u3 (Z.map zkNm ++ (S.lk.take i).map LkT.nm) ∧ Hid (Below V.heap.size V wr)) (fun _ _ u _ => S.lk.length - (intOf u).toNat)
   case atStart => exact ⟨0, rfl, Nat.zero_le _, by rw [List.take_zero]; simpa using HOW.out, HB⟩
   case round =>
    clear HB HOW
    obtain ⟨i, rfl, hi, hO, HB⟩ := hrel
    have hib : (i : Int) ≤ 30 := by omega
    by_cases hlt : i < S.lk.length
    ·obtain ⟨al', cl', ea, _, hc⟩ := HS.out.lk.below (keepBelow HBV.out HB.out)
     cases ea
     obtain ⟨b, o, rfl, hcc⟩ := hc i hlt
     obtain ⟨x, hx⟩ : ∃ x, S.lk.getD i lk0 = x := ⟨_, rfl⟩
     have HFN : Hid (Z.map zkNm ++ (S.lk.take (i + 1)).map LkT.nm = Z.map zkNm ++ (S.lk.take i).map LkT.nm ++ [LkT.nm (S.lk.getD i lk0)]) := Lib.hid (by rw [take_nx lk0 hlt, List.map_append]; first | rfl | exact (List.append_assoc _ _ _).symm)
     have hli := trivial
     rw [hx] at hcc HFN
     clear hc hx
     clear hli
     obtain ⟨n0, z0⟩ := x
     obtain ⟨NM, rfl⟩ := bs_of n0
     obtain ⟨ZO, rfl⟩ := bs_of z0
     have e0 : wr.cell? ⟨b, o + i * 2, none⟩ = some (.string NM) := hcc 0 _ (by decide) rfl
     have e1 : wr.cell? ⟨b, o + i * 2 + 1, none⟩ = some (.string ZO) := hcc 1 _ (by decide) rfl
     clear hcc
     have hll : (i : Int) < (S.lk.length : Int) := by omega
     have HLN : Hid ((Z.map zkNm ++ (S.lk.take i).map LkT.nm).length < 1000000) := Lib.hid (by simp only [List.length_append, List.length_map, List.length_take]; omega)
     obtain ⟨Q, hQ⟩ : ∃ Q, Z.map zkNm ++ (S.lk.take i).map LkT.nm = Q := ⟨_, rfl⟩
     rw [hQ] at hO HFN HLN
     clear hQ
     have HOW := Lib.hid hO
     obtain ⟨a3, c3, rfl⟩ := hO.form
     clear hO
     generalize wr = W2 at *
     go_upto_region 12 with fail
     obtain ⟨b6, hb6⟩ : ∃ b, W2.heap.size = b := ⟨_, rfl⟩
     obtain ⟨Y, hY⟩ : ∃ Y, W2.alloc (.cells #[.string NM, .string ZO] 48) = Y := ⟨_, rfl⟩
     have HBY : Hid (Below W2.heap.size W2 Y) := Lib.hid (by rw [← hY]; exact (Below.refl _ _).alloc (Nat.le_refl _) _)
     have HK : Hid (Blk Y b6 #[.string NM, .string ZO] 48) := Lib.hid (by rw [← hY, ← hb6]; exact Blk.new _ _ _)
     try rw [hY]
     try rw [hb6]
     clear hY hb6
     have HOY := Lib.hid (HOW.out.below HBY.out)
     have HBW := Lib.hid (keepBelow HB.out HBY.out)
     have u0 := HK.out.cell (j := 0) rfl
     go_wp2_with (at_builtin; refine wpList_app_G (z := (bsO NM : Bs)) (w0 := V) (B := V.heap.size) flS_len (by decide) Tryz.underlying71 Tryz.infoNm rfl (by decide) rfl (.tmp 31) (.tmp 34) rfl rfl HOY.out (Nat.le_refl _) HBW.out.size HBW.out (by intro u hu; simp [flS] at hu; subst hu; rfl) rfl rfl HLN.out rfl ?_; intro v3 V3 o3 b3 k3 g3 z3; clear k3 g3 z3)
     go_roundw
     case rel => exact ⟨i + 1, by go_num, by omega, by rw [HFN.out]; exact o3, Lib.hid b3⟩
     case measure => simp [intOf]; omega
    ·obtain rfl : i = S.lk.length := by omega
     rw [List.take_length] at hO
     have hQl : (Z.map zkNm ++ S.lk.map LkT.nm).length < 1000000 := by simp only [List.length_append, List.length_map]; omega
     obtain ⟨Q, hQ⟩ : ∃ Q, Z.map zkNm ++ S.lk.map LkT.nm = Q := ⟨_, rfl⟩
     rw [hQ] at hO HNM2 hQl
     have HSO := Lib.hid (sortS_own _ _ V wr hO HB.out hQl)
     rw [← HNM2.out] at HSO
     clear hQ hQl
     obtain ⟨a3, c3, e3⟩ := hO.form
     rw [e3] at HSO ⊢
     clear hO e3
     go_wp2_with (first | (go_at_call 110; refine HSO.out.mono ?_; rintro e w3 ⟨rfl, ho3, hb3⟩) | fail)
     go_ret
     exact ⟨⟨_, rfl, ho3.mono HBV.out.size⟩, keepBelow HBV.out hb3⟩
end Go.Proofs.YtlbglinpgjlbkaaGreatDoor
