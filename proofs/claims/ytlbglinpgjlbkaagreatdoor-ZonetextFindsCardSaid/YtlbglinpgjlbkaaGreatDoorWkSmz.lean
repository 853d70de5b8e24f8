import Derived.Test.YtlbglinpgjlbkaaGreatDoorWkEqz
/- Zone texts: the reference's SameZone and Same. Printed by gen_sm.py. No conditions. -/
namespace Go.Proofs.YtlbglinpgjlbkaaGreatDoor
open Go.RowKit Wk

theorem list_ext {α : Type} {L M : List α} {d : α} (h : M.length = L.length) (he : ∀ j, j < L.length → L.getD j d = M.getD j d) : L = M :=
 List.ext_getElem h.symm fun j g1 g2 => by
  have := he j g1
  rw [List.getD_eq_getElem?_getD, List.getD_eq_getElem?_getD, List.getElem?_eq_getElem g1, List.getElem?_eq_getElem g2] at this
  exact this
theorem map_ext {L M : List ZkT} (h : M.length = L.length) (he : ∀ j, j < L.length → (L.getD j zk0).1 = (M.getD j zk0).1) : L.map Prod.fst = M.map Prod.fst :=
 List.ext_getElem (by rw [List.length_map, List.length_map, h]) fun j g1 g2 => by
  rw [List.length_map] at g1 g2
  have := he j g1
  rw [List.getD_eq_getElem?_getD, List.getD_eq_getElem?_getD, List.getElem?_eq_getElem g1, List.getElem?_eq_getElem g2] at this
  rw [List.getElem_map, List.getElem_map]
  exact this
theorem getD_eq_of_map {L M : List ZkT} {i : Nat} (e : L.map Prod.fst = M.map Prod.fst) (hlt : i < L.length) : (L.getD i zk0).1 = (M.getD i zk0).1 := by
 have hl : L.length = M.length := by simpa using congrArg List.length e
 have e1 := congrArg (fun l : List ZoT => l[i]?) e
 simp only [List.getElem?_map] at e1
 rw [List.getElem?_eq_getElem hlt, List.getElem?_eq_getElem (show i < M.length by omega)] at e1
 rw [List.getD_eq_getElem?_getD, List.getD_eq_getElem?_getD, List.getElem?_eq_getElem hlt, List.getElem?_eq_getElem (show i < M.length by omega)]
 simpa using e1
set_option maxRecDepth 100000 in
set_option maxHeartbeats 8000000 in
theorem sameZone_any (N1 N2 : ByteArray) (l1 l2 : Value) (li1 li2 : List LiT) (w : World) (h1 : RdLi w l1 li1) (h2 : RdLi w l2 li2) :
  Calls Tryz.prog 22 #[.agg #[.string N1, l1], .agg #[.string N2, l2]] w fun e w' => e = .returned (.bool (decide ((⟨bsO N1, li1⟩ : ZoT) = ⟨bsO N2, li2⟩))) ∧ Below w.heap.size w w' := by
 obtain ⟨a1, c1, rfl, hl1, hc1⟩ := h1
 obtain ⟨a2, c2, rfl, hl2, hc2⟩ := h2
 have HC1 := Lib.hid hc1
 have HC2 := Lib.hid hc2
 clear hc1 hc2
 obtain ⟨r, hr⟩ : ∃ r, decide ((⟨bsO N1, li1⟩ : ZoT) = ⟨bsO N2, li2⟩) = r := ⟨_, rfl⟩
 rw [hr]
 have HRN : Hid ((bsO N1 = bsO N2 → False) → false = r) := Lib.hid fun h => by rw [← hr]; exact (decide_eq_false fun e => h (by injection e)).symm
 have HRL : Hid ((li1 = li2 → False) → false = r) := Lib.hid fun h => by rw [← hr]; exact (decide_eq_false fun e => h (by injection e)).symm
 have HRT : Hid (bsO N1 = bsO N2 → li1 = li2 → true = r) := Lib.hid fun h h' => by rw [← hr, h, h']; exact (decide_eq_true rfl).symm
 clear hr
 by_cases hnm : bsO N1 = bsO N2
 ·have g1 : (N1.toList == N2.toList) = true := by rw [bsT, bsT, hnm]; exact BEq.rfl
  by_cases hlen : li2.length = li1.length
  ·have HNM := Lib.hid hnm
   clear hnm
   rw [hlen] at HC2 ⊢
   have HLE := Lib.hid hlen
   clear hlen
   have hln : (li1.length : Int) ≤ 1152921504606846976 := by omega
   go_enter Tryz.func22, Tryz.ntmps22
   go_upto_region 1 with fail
   obtain ⟨b2, hb2⟩ : ∃ b, w.heap.size = b := ⟨_, rfl⟩
   obtain ⟨b3, hb3⟩ : ∃ b, w.heap.size + 1 = b := ⟨_, rfl⟩
   obtain ⟨X, hX⟩ : ∃ X, (w.alloc (.cells #[.string N1, .slice a1 li1.length c1] 45)).alloc (.cells #[.string N2, .slice a2 li1.length c2] 45) = X := ⟨_, rfl⟩
   have HBX : Hid (Below w.heap.size w X) := Lib.hid (by rw [← hX]; exact ((Below.refl _ w).alloc (Nat.le_refl _) _).alloc (by simp) _)
   have HX2 : Hid (Blk X b2 #[.string N1, .slice a1 li1.length c1] 45) := Lib.hid (by rw [← hX, ← hb2]; exact (Blk.new w _ _).below ((Below.refl _ _).alloc (Nat.le_refl _) _))
   have HX3 : Hid (Blk X b3 #[.string N2, .slice a2 li1.length c2] 45) := Lib.hid (by
    rw [← hX, ← hb3]
    have q := Blk.new (w.alloc (.cells #[.string N1, .slice a1 li1.length c1] 45)) #[.string N2, .slice a2 li1.length c2] 45
    simpa using q)
   try rw [hX]
   try rw [hb3]
   try rw [hb2]
   clear hX hb2 hb3
   have x0 := HX2.out.cell (j := 0) rfl
   have x1 := HX2.out.cell (j := 1) rfl
   have y0 := HX3.out.cell (j := 0) rfl
   have y1 := HX3.out.cell (j := 1) rfl
   go_upto_region 4 with fail
   clear x0 x1 y0 y1 g1
   go_loopw [5] (fun u wx => ∃ i : Nat, u = .int .i64 i ∧ i ≤ li1.length ∧ Hid (∀ j, j < i → (li1.getD j li0) = (li2.getD j li0)) ∧ Hid (Below X.heap.size X wx)) (fun u _ => li1.length - (intOf u).toNat)
   case atStart => exact ⟨0, rfl, Nat.zero_le _, Lib.hid fun j hj => by omega, Below.refl _ _⟩
   case round =>
    skip
    obtain ⟨i, rfl, hi, HE, HBx⟩ := hrel
    have HBW := Lib.hid (keepBelow HBX.out HBx.out)
    by_cases hlt : i < li1.length
    ·have hlt2 : (i : Int) < (li1.length : Int) := by omega
     have hi0 : (0 : Int) ≤ (i : Int) := Int.natCast_nonneg _
     obtain ⟨b, o, ea, hd1⟩ := HC1.out i hlt
     obtain ⟨b', o', eb, hd2⟩ := HC2.out i hlt
     subst ea eb
     have z2 : wr.cell? ⟨b2, 1, none⟩ = some (.slice (some ⟨b, o, none⟩) li1.length c1) := (HX2.out.below HBx.out).cell (j := 1) rfl
     have z3 : wr.cell? ⟨b3, 1, none⟩ = some (.slice (some ⟨b', o', none⟩) li1.length c2) := (HX3.out.below HBx.out).cell (j := 1) rfl
     obtain ⟨x, hx⟩ : ∃ x, li1.getD i li0 = x := ⟨_, rfl⟩
     obtain ⟨y, hy⟩ : ∃ y, li2.getD i li0 = y := ⟨_, rfl⟩
     obtain ⟨q, hq⟩ : ∃ q, (!decide (x = y)) = q := ⟨_, rfl⟩
     have HQ := Lib.hid hq
     have HN : Hid (q = false → Hid (∀ j, j < i + 1 → (li1.getD j li0) = (li2.getD j li0))) := Lib.hid fun h => Lib.hid fun j hj => by
      rcases Nat.lt_succ_iff_lt_or_eq.1 hj with g | rfl
      ·exact HE.out j g
      ·rw [hx, hy]
       rw [h] at hq
       simpa using hq
     have HX : Hid (q = true → false = r) := Lib.hid fun h => by
      rw [h] at hq
      refine HRL.out fun e => ?_
      have hne : ¬ x = y := by simpa using hq
      apply hne
      rw [← hx, ← hy]
      exact (by rw [e])
     rw [hx] at hd1
     rw [hy] at hd2
     clear hx hy hq HE
     obtain ⟨xof, xru, xsv, xfm, xla, ⟨xyr, xmo, ⟨xko, xvo, xdw⟩, xat_, xck⟩⟩ := x
     obtain ⟨yof, yru, ysv, yfm, yla, ⟨yyr, ymo, ⟨yko, yvo, ydw⟩, yat_, yck⟩⟩ := y
     obtain ⟨XRU, rfl⟩ := bs_of xru
     obtain ⟨XFM, rfl⟩ := bs_of xfm
     obtain ⟨YRU, rfl⟩ := bs_of yru
     obtain ⟨YFM, rfl⟩ := bs_of yfm
     have d0 : wr.cell? ⟨b, o + i * 12, none⟩ = some (.int .i64 xof) := keepCell HBW.out (hd1 0 _ (by decide) rfl)
     have d1 : wr.cell? ⟨b, o + i * 12 + 1, none⟩ = some (.string XRU) := keepCell HBW.out (hd1 1 _ (by decide) rfl)
     have d2 : wr.cell? ⟨b, o + i * 12 + 2, none⟩ = some (.int .i64 xsv) := keepCell HBW.out (hd1 2 _ (by decide) rfl)
     have d3 : wr.cell? ⟨b, o + i * 12 + 3, none⟩ = some (.string XFM) := keepCell HBW.out (hd1 3 _ (by decide) rfl)
     have d4 : wr.cell? ⟨b, o + i * 12 + 4, none⟩ = some (.bool xla) := keepCell HBW.out (hd1 4 _ (by decide) rfl)
     have d5 : wr.cell? ⟨b, o + i * 12 + 5, none⟩ = some (.int .i64 xyr) := keepCell HBW.out (hd1 5 _ (by decide) rfl)
     have d6 : wr.cell? ⟨b, o + i * 12 + 6, none⟩ = some (.int .i64 xmo) := keepCell HBW.out (hd1 6 _ (by decide) rfl)
     have d7 : wr.cell? ⟨b, o + i * 12 + 7, none⟩ = some (.int .i64 xko) := keepCell HBW.out (hd1 7 _ (by decide) rfl)
     have d8 : wr.cell? ⟨b, o + i * 12 + 8, none⟩ = some (.int .i64 xvo) := keepCell HBW.out (hd1 8 _ (by decide) rfl)
     have d9 : wr.cell? ⟨b, o + i * 12 + 9, none⟩ = some (.int .i64 xdw) := keepCell HBW.out (hd1 9 _ (by decide) rfl)
     have d10 : wr.cell? ⟨b, o + i * 12 + 10, none⟩ = some (.int .i64 xat_) := keepCell HBW.out (hd1 10 _ (by decide) rfl)
     have d11 : wr.cell? ⟨b, o + i * 12 + 11, none⟩ = some (.int .i64 xck) := keepCell HBW.out (hd1 11 _ (by decide) rfl)
     have e0 : wr.cell? ⟨b', o' + i * 12, none⟩ = some (.int .i64 yof) := keepCell HBW.out (hd2 0 _ (by decide) rfl)
     have e1 : wr.cell? ⟨b', o' + i * 12 + 1, none⟩ = some (.string YRU) := keepCell HBW.out (hd2 1 _ (by decide) rfl)
     have e2 : wr.cell? ⟨b', o' + i * 12 + 2, none⟩ = some (.int .i64 ysv) := keepCell HBW.out (hd2 2 _ (by decide) rfl)
     have e3 : wr.cell? ⟨b', o' + i * 12 + 3, none⟩ = some (.string YFM) := keepCell HBW.out (hd2 3 _ (by decide) rfl)
     have e4 : wr.cell? ⟨b', o' + i * 12 + 4, none⟩ = some (.bool yla) := keepCell HBW.out (hd2 4 _ (by decide) rfl)
     have e5 : wr.cell? ⟨b', o' + i * 12 + 5, none⟩ = some (.int .i64 yyr) := keepCell HBW.out (hd2 5 _ (by decide) rfl)
     have e6 : wr.cell? ⟨b', o' + i * 12 + 6, none⟩ = some (.int .i64 ymo) := keepCell HBW.out (hd2 6 _ (by decide) rfl)
     have e7 : wr.cell? ⟨b', o' + i * 12 + 7, none⟩ = some (.int .i64 yko) := keepCell HBW.out (hd2 7 _ (by decide) rfl)
     have e8 : wr.cell? ⟨b', o' + i * 12 + 8, none⟩ = some (.int .i64 yvo) := keepCell HBW.out (hd2 8 _ (by decide) rfl)
     have e9 : wr.cell? ⟨b', o' + i * 12 + 9, none⟩ = some (.int .i64 ydw) := keepCell HBW.out (hd2 9 _ (by decide) rfl)
     have e10 : wr.cell? ⟨b', o' + i * 12 + 10, none⟩ = some (.int .i64 yat_) := keepCell HBW.out (hd2 10 _ (by decide) rfl)
     have e11 : wr.cell? ⟨b', o' + i * 12 + 11, none⟩ = some (.int .i64 yck) := keepCell HBW.out (hd2 11 _ (by decide) rfl)
     clear hd1 hd2
     have HBD : Hid (Below X.heap.size X wr.drew) := Lib.hid HBx.out.drew
     go_upto_region 6 with fail
     refine wp_region_held_drew (S := fun w' => w'.cell? ⟨b2, 1, none⟩ = some (.slice (some ⟨b, o, none⟩) li1.length c1) ∧ w'.cell? ⟨b3, 1, none⟩ = some (.slice (some ⟨b', o', none⟩) li1.length c2) ∧ w'.cell? ⟨b, o + i * 12, none⟩ = some (.int .i64 xof) ∧ w'.cell? ⟨b, o + i * 12 + 1, none⟩ = some (.string XRU) ∧ w'.cell? ⟨b, o + i * 12 + 2, none⟩ = some (.int .i64 xsv) ∧ w'.cell? ⟨b, o + i * 12 + 3, none⟩ = some (.string XFM) ∧ w'.cell? ⟨b, o + i * 12 + 4, none⟩ = some (.bool xla) ∧ w'.cell? ⟨b, o + i * 12 + 5, none⟩ = some (.int .i64 xyr) ∧ w'.cell? ⟨b, o + i * 12 + 6, none⟩ = some (.int .i64 xmo) ∧ w'.cell? ⟨b, o + i * 12 + 7, none⟩ = some (.int .i64 xko) ∧ w'.cell? ⟨b, o + i * 12 + 8, none⟩ = some (.int .i64 xvo) ∧ w'.cell? ⟨b, o + i * 12 + 9, none⟩ = some (.int .i64 xdw) ∧ w'.cell? ⟨b, o + i * 12 + 10, none⟩ = some (.int .i64 xat_) ∧ w'.cell? ⟨b, o + i * 12 + 11, none⟩ = some (.int .i64 xck) ∧ w'.cell? ⟨b', o' + i * 12, none⟩ = some (.int .i64 yof) ∧ w'.cell? ⟨b', o' + i * 12 + 1, none⟩ = some (.string YRU) ∧ w'.cell? ⟨b', o' + i * 12 + 2, none⟩ = some (.int .i64 ysv) ∧ w'.cell? ⟨b', o' + i * 12 + 3, none⟩ = some (.string YFM) ∧ w'.cell? ⟨b', o' + i * 12 + 4, none⟩ = some (.bool yla) ∧ w'.cell? ⟨b', o' + i * 12 + 5, none⟩ = some (.int .i64 yyr) ∧ w'.cell? ⟨b', o' + i * 12 + 6, none⟩ = some (.int .i64 ymo) ∧ w'.cell? ⟨b', o' + i * 12 + 7, none⟩ = some (.int .i64 yko) ∧ w'.cell? ⟨b', o' + i * 12 + 8, none⟩ = some (.int .i64 yvo) ∧ w'.cell? ⟨b', o' + i * 12 + 9, none⟩ = some (.int .i64 ydw) ∧ w'.cell? ⟨b', o' + i * 12 + 10, none⟩ = some (.int .i64 yat_) ∧ w'.cell? ⟨b', o' + i * 12 + 11, none⟩ = some (.int .i64 yck)) (by kernel_rfl) ?_ (fun hHeld => ?_)
     ·exact ⟨z2, z3, d0, d1, d2, d3, d4, d5, d6, d7, d8, d9, d10, d11, e0, e1, e2, e3, e4, e5, e6, e7, e8, e9, e10, e11⟩
     refine wpAnyH_take (i := 0) (v := ?v2) rfl (by kernel_rfl) (by kernel_rfl) (by kernel_rfl) (fun _ _ _ h => h) (Or.inl ⟨by rfl, ?hy2⟩) (by assumption) ?rest2
     case hy2 =>
      intro w hSw
      try dsimp only at hSw
      go_simp
      try with_reducible rfl
     case rest2 =>
     refine wpAnyH_take (i := 1) (v := ?v3) rfl (by kernel_rfl) (by kernel_rfl) (by kernel_rfl) (fun _ _ _ h => h) (Or.inl ⟨by rfl, ?hy3⟩) (by assumption) ?rest3
     case hy3 =>
      intro w hSw
      try dsimp only at hSw
      go_simp
      try with_reducible rfl
     case rest3 =>
     refine wpAnyH_take (i := 2) (v := ?v4) rfl (by kernel_rfl) (by kernel_rfl) (by kernel_rfl) (fun _ _ _ h => h) (Or.inl ⟨by rfl, ?hy4⟩) (by assumption) ?rest4
     case hy4 =>
      intro w hSw
      try dsimp only at hSw
      go_simp
      try with_reducible rfl
     case rest4 =>
     refine wpAnyH_take (i := 3) (v := ?v5) rfl (by kernel_rfl) (by kernel_rfl) (by kernel_rfl) (fun _ _ _ h => h) (Or.inl ⟨by rfl, ?hy5⟩) (by assumption) ?rest5
     case hy5 =>
      intro w hSw
      try dsimp only at hSw
      go_simp
      try with_reducible rfl
     case rest5 =>
     refine wpAnyH_take (i := 4) (v := ?v6) rfl (by kernel_rfl) (by kernel_rfl) (by kernel_rfl) (fun _ _ _ h => h) (Or.inl ⟨by rfl, ?hy6⟩) (by assumption) ?rest6
     case hy6 =>
      intro w hSw
      try dsimp only at hSw
      go_simp
      try with_reducible rfl
     case rest6 =>
     refine wpAnyH_take (i := 5) (v := ?v7) rfl (by kernel_rfl) (by kernel_rfl) (by kernel_rfl) (fun _ _ _ h => h) (Or.inl ⟨by rfl, ?hy7⟩) (by assumption) ?rest7
     case hy7 =>
      intro w hSw
      try dsimp only at hSw
      go_simp
      try with_reducible rfl
     case rest7 =>
     refine wpAnyH_take (i := 6) (v := ?v8) rfl (by kernel_rfl) (by kernel_rfl) (by kernel_rfl) (fun _ _ _ h => h) (Or.inl ⟨by rfl, ?hy8⟩) (by assumption) ?rest8
     case hy8 =>
      intro w hSw
      try dsimp only at hSw
      go_simp
      try with_reducible rfl
     case rest8 =>
     refine wpAnyH_take (i := 7) (v := ?v9) rfl (by kernel_rfl) (by kernel_rfl) (by kernel_rfl) (fun _ _ _ h => h) (Or.inl ⟨by rfl, ?hy9⟩) (by assumption) ?rest9
     case hy9 =>
      intro w hSw
      try dsimp only at hSw
      go_simp
      try with_reducible rfl
     case rest9 =>
     refine wpAnyH_take (i := 8) (v := ?v10) rfl (by kernel_rfl) (by kernel_rfl) (by kernel_rfl) (fun _ _ _ h => h) (Or.inl ⟨by rfl, ?hy10⟩) (by assumption) ?rest10
     case hy10 =>
      intro w hSw
      try dsimp only at hSw
      go_simp
      try with_reducible rfl
     case rest10 =>
     refine wpAnyH_take (i := 9) (v := ?v11) rfl (by kernel_rfl) (by kernel_rfl) (by kernel_rfl) (fun _ _ _ h => h) (Or.inl ⟨by rfl, ?hy11⟩) (by assumption) ?rest11
     case hy11 =>
      intro w hSw
      try dsimp only at hSw
      go_simp
      try with_reducible rfl
     case rest11 =>
     refine wpAnyH_take (i := 10) (v := .bool q) rfl (by kernel_rfl) (by kernel_rfl) (by kernel_rfl) (fun _ _ _ h => h) (Or.inl ⟨by rfl, ?hy1⟩) (by assumption) ?rest1
     case hy1 =>
      intro w hSw
      clear hSw
      go_simp
      rw [← HQ.out]
      exact (neq_step (neq_step (neq_step (neq_step (neq_step (neq_step (neq_step (neq_step (neq_step (neq_step (neq_step (neq_step (neq_end w))))))))))))).trans (congrArg (fun b => Result.ok (Next.value (Value.bool (!b))) w) (decide_eq_decide.2 (by simp only [LiT.mk.injEq, UnT.mk.injEq, OnT.mk.injEq, bsT, and_assoc, and_true])))
     case rest1 =>
     refine wpAnyH_done (by kernel_rfl) ?_ _
     go_simp
     cases q with
     | false =>
      go_wp2_with fail
      go_roundw
      case rel => exact ⟨i + 1, by go_num, by omega, HN.out (by trivial), HBD⟩
      case measure => simp [intOf]; omega
     | true =>
      go_wp2_with fail
      go_ret
      exact ⟨ret_bool (HX.out (by trivial)), keepBelow HBX.out HBD.out⟩
    ·obtain rfl : i = li1.length := by omega
     have z2 : wr.cell? ⟨b2, 1, none⟩ = some (.slice a1 li1.length c1) := (HX2.out.below HBx.out).cell (j := 1) rfl
     have z3 : wr.cell? ⟨b3, 1, none⟩ = some (.slice a2 li1.length c2) := (HX3.out.below HBx.out).cell (j := 1) rfl
     have HEL : Hid (li1 = li2) := Lib.hid (list_ext HLE.out HE.out)
     clear HE
     have HT := Lib.hid (HRT.out HNM.out HEL.out)
     go_wp2_with fail
     go_ret
     exact ⟨ret_bool HT.out, HBW.out⟩
  ·have g2 : ((li1.length : Int) != (li2.length : Int)) = true := by simpa using fun e => hlen (by omega)
   have HF := Lib.hid (HRL.out fun e => hlen (by rw [e]))
   clear hnm hlen
   go_enter Tryz.func22, Tryz.ntmps22
   go_upto_region 1 with fail
   obtain ⟨b2, hb2⟩ : ∃ b, w.heap.size = b := ⟨_, rfl⟩
   obtain ⟨b3, hb3⟩ : ∃ b, w.heap.size + 1 = b := ⟨_, rfl⟩
   obtain ⟨X, hX⟩ : ∃ X, (w.alloc (.cells #[.string N1, .slice a1 li1.length c1] 45)).alloc (.cells #[.string N2, .slice a2 li2.length c2] 45) = X := ⟨_, rfl⟩
   have HBX : Hid (Below w.heap.size w X) := Lib.hid (by rw [← hX]; exact ((Below.refl _ w).alloc (Nat.le_refl _) _).alloc (by simp) _)
   have HX2 : Hid (Blk X b2 #[.string N1, .slice a1 li1.length c1] 45) := Lib.hid (by rw [← hX, ← hb2]; exact (Blk.new w _ _).below ((Below.refl _ _).alloc (Nat.le_refl _) _))
   have HX3 : Hid (Blk X b3 #[.string N2, .slice a2 li2.length c2] 45) := Lib.hid (by
    rw [← hX, ← hb3]
    have q := Blk.new (w.alloc (.cells #[.string N1, .slice a1 li1.length c1] 45)) #[.string N2, .slice a2 li2.length c2] 45
    simpa using q)
   try rw [hX]
   try rw [hb3]
   try rw [hb2]
   clear hX hb2 hb3
   have x0 := HX2.out.cell (j := 0) rfl
   have x1 := HX2.out.cell (j := 1) rfl
   have y0 := HX3.out.cell (j := 0) rfl
   have y1 := HX3.out.cell (j := 1) rfl
   go_wp2_with fail
   go_ret
   exact ⟨ret_bool HF.out, HBX.out⟩
 ·have g1 : (N1.toList == N2.toList) = false := by rw [bsT, bsT]; exact beq_eq_false_iff_ne.2 hnm
  have HF := Lib.hid (HRN.out hnm)
  clear hnm
  go_enter Tryz.func22, Tryz.ntmps22
  go_upto_region 1 with fail
  obtain ⟨b2, hb2⟩ : ∃ b, w.heap.size = b := ⟨_, rfl⟩
  obtain ⟨b3, hb3⟩ : ∃ b, w.heap.size + 1 = b := ⟨_, rfl⟩
  obtain ⟨X, hX⟩ : ∃ X, (w.alloc (.cells #[.string N1, .slice a1 li1.length c1] 45)).alloc (.cells #[.string N2, .slice a2 li2.length c2] 45) = X := ⟨_, rfl⟩
  have HBX : Hid (Below w.heap.size w X) := Lib.hid (by rw [← hX]; exact ((Below.refl _ w).alloc (Nat.le_refl _) _).alloc (by simp) _)
  have HX2 : Hid (Blk X b2 #[.string N1, .slice a1 li1.length c1] 45) := Lib.hid (by rw [← hX, ← hb2]; exact (Blk.new w _ _).below ((Below.refl _ _).alloc (Nat.le_refl _) _))
  have HX3 : Hid (Blk X b3 #[.string N2, .slice a2 li2.length c2] 45) := Lib.hid (by
   rw [← hX, ← hb3]
   have q := Blk.new (w.alloc (.cells #[.string N1, .slice a1 li1.length c1] 45)) #[.string N2, .slice a2 li2.length c2] 45
   simpa using q)
  try rw [hX]
  try rw [hb3]
  try rw [hb2]
  clear hX hb2 hb3
  have x0 := HX2.out.cell (j := 0) rfl
  have x1 := HX2.out.cell (j := 1) rfl
  have y0 := HX3.out.cell (j := 0) rfl
  have y1 := HX3.out.cell (j := 1) rfl
  go_wp2_with fail
  go_ret
  exact ⟨ret_bool HF.out, HBX.out⟩
set_option maxRecDepth 100000 in
set_option maxHeartbeats 16000000 in
theorem same_any (rv zv lv : Value) (S : SrT) (Z : List ZkT) (rv2 zv2 lv2 : Value) (S2 : SrT) (Z2 : List ZkT) (w : World) (hs : RdSr w rv zv lv S Z) (hs2 : RdSr w rv2 zv2 lv2 S2 Z2) :
  Calls Tryz.prog 14 #[.agg #[rv, zv, lv], .agg #[rv2, zv2, lv2]] w fun e w' => e = .returned (.bool (decide (S = S2))) ∧ Below w.heap.size w w' := by
 have HZE : Hid (S.zo = Z.map Prod.fst ∧ S2.zo = Z2.map Prod.fst) := Lib.hid ⟨hs.zs.symm, hs2.zs.symm⟩
 obtain ⟨⟨ra, rc, rfl, rl, hr1⟩, ⟨⟨za, zc, rfl, zl, hz1⟩, hzl1⟩, -, ⟨la, lc, rfl, ll, hl1⟩⟩ := hs
 obtain ⟨⟨ra2, rc2, rfl, -, hr2⟩, ⟨⟨za2, zc2, rfl, -, hz2⟩, hzl2⟩, -, ⟨la2, lc2, rfl, -, hl2⟩⟩ := hs2
 have HR1 := Lib.hid hr1
 have HR2 := Lib.hid hr2
 have HZ1 := Lib.hid hz1
 have HZ2 := Lib.hid hz2
 have HL1 := Lib.hid hzl1
 have HL2 := Lib.hid hzl2
 have HK1 := Lib.hid hl1
 have HK2 := Lib.hid hl2
 have hrb : (S.ru.length : Int) ≤ 1152921504606846976 := by omega
 have hlb : (S.lk.length : Int) ≤ 1152921504606846976 := by omega
 have hzb : (Z.length : Int) ≤ 1152921504606846976 := by omega
 clear hr1 hr2 hz1 hz2 hzl1 hzl2 hl1 hl2
 obtain ⟨r, hr⟩ : ∃ r, decide (S = S2) = r := ⟨_, rfl⟩
 rw [hr]
 have HRR : Hid ((S.ru = S2.ru → False) → false = r) := Lib.hid fun h => by rw [← hr]; exact (decide_eq_false fun e => h (by rw [e])).symm
 have HRK : Hid ((S.lk = S2.lk → False) → false = r) := Lib.hid fun h => by rw [← hr]; exact (decide_eq_false fun e => h (by rw [e])).symm
 have HRZ : Hid ((Z.map Prod.fst = Z2.map Prod.fst → False) → false = r) := Lib.hid fun h => by rw [← hr]; exact (decide_eq_false fun e => h (by rw [← HZE.out.1, ← HZE.out.2, e])).symm
 have HRT : Hid (S.ru = S2.ru → S.lk = S2.lk → Z.map Prod.fst = Z2.map Prod.fst → true = r) := Lib.hid fun h h' h2 => by
  rw [← HZE.out.1, ← HZE.out.2] at h2
  rw [← hr]
  obtain ⟨a, b, c⟩ := S
  obtain ⟨a', b', c'⟩ := S2
  simp only at h h' h2
  rw [h, h', h2]
  exact (decide_eq_true rfl).symm
 clear hr HZE
 by_cases k1 : S2.ru.length = S.ru.length
 ·by_cases k2 : Z2.length = Z.length
  ·by_cases k3 : S2.lk.length = S.lk.length
   ·rw [k1, k2, k3]
    rw [k1] at HR2
    rw [k2] at HZ2 HL2
    rw [k3] at HK2
    have HLR := Lib.hid k1
    have HLZ := Lib.hid k2
    have HLK := Lib.hid k3
    clear k1 k2 k3
    go_enter Tryz.func14, Tryz.ntmps14
    go_upto_region 1 with fail
    obtain ⟨b2, hb2⟩ : ∃ b, w.heap.size = b := ⟨_, rfl⟩
    obtain ⟨b3, hb3⟩ : ∃ b, w.heap.size + 1 = b := ⟨_, rfl⟩
    obtain ⟨X, hX⟩ : ∃ X, (w.alloc (.cells #[.slice ra S.ru.length rc, .slice za Z.length zc, .slice la S.lk.length lc] 27)).alloc (.cells #[.slice ra2 S.ru.length rc2, .slice za2 Z.length zc2, .slice la2 S.lk.length lc2] 27) = X := ⟨_, rfl⟩
    have HBX : Hid (Below w.heap.size w X) := Lib.hid (by rw [← hX]; exact ((Below.refl _ w).alloc (Nat.le_refl _) _).alloc (by simp) _)
    have HX2 : Hid (Blk X b2 #[.slice ra S.ru.length rc, .slice za Z.length zc, .slice la S.lk.length lc] 27) := Lib.hid (by rw [← hX, ← hb2]; exact (Blk.new w _ _).below ((Below.refl _ _).alloc (Nat.le_refl _) _))
    have HX3 : Hid (Blk X b3 #[.slice ra2 S.ru.length rc2, .slice za2 Z.length zc2, .slice la2 S.lk.length lc2] 27) := Lib.hid (by
     rw [← hX, ← hb3]
     have q := Blk.new (w.alloc (.cells #[.slice ra S.ru.length rc, .slice za Z.length zc, .slice la S.lk.length lc] 27)) #[.slice ra2 S.ru.length rc2, .slice za2 Z.length zc2, .slice la2 S.lk.length lc2] 27
     simpa using q)
    try rw [hX]
    try rw [hb3]
    try rw [hb2]
    clear hX hb2 hb3
    have x0 := HX2.out.cell (j := 0) rfl
    have x1 := HX2.out.cell (j := 1) rfl
    have x2 := HX2.out.cell (j := 2) rfl
    have y0 := HX3.out.cell (j := 0) rfl
    have y1 := HX3.out.cell (j := 1) rfl
    have y2 := HX3.out.cell (j := 2) rfl
    go_upto_region 4 with fail
    clear x0 x1 x2 y0 y1 y2
    go_loopw [5] (fun u wx => ∃ i : Nat, u = .int .i64 i ∧ i ≤ S.ru.length ∧ Hid (∀ j, j < i → (S.ru.getD j ru0) = (S2.ru.getD j ru0)) ∧ Hid (Below X.heap.size X wx)) (fun u _ => S.ru.length - (intOf u).toNat)
    case atStart => exact ⟨0, rfl, Nat.zero_le _, Lib.hid fun j hj => by omega, Below.refl _ _⟩
    case round =>
     skip
     obtain ⟨i, rfl, hi, HE, HBx⟩ := hrel
     have HBW := Lib.hid (keepBelow HBX.out HBx.out)
     by_cases hlt : i < S.ru.length
     ·have hlt2 : (i : Int) < (S.ru.length : Int) := by omega
      have hi0 : (0 : Int) ≤ (i : Int) := Int.natCast_nonneg _
      obtain ⟨b, o, ea, hd1⟩ := HR1.out i hlt
      obtain ⟨b', o', eb, hd2⟩ := HR2.out i hlt
      subst ea eb
      have z2 : wr.cell? ⟨b2, 0, none⟩ = some (.slice (some ⟨b, o, none⟩) S.ru.length rc) := (HX2.out.below HBx.out).cell (j := 0) rfl
      have z3 : wr.cell? ⟨b3, 0, none⟩ = some (.slice (some ⟨b', o', none⟩) S.ru.length rc2) := (HX3.out.below HBx.out).cell (j := 0) rfl
      obtain ⟨x, hx⟩ : ∃ x, S.ru.getD i ru0 = x := ⟨_, rfl⟩
      obtain ⟨y, hy⟩ : ∃ y, S2.ru.getD i ru0 = y := ⟨_, rfl⟩
      obtain ⟨q, hq⟩ : ∃ q, (!decide (x = y)) = q := ⟨_, rfl⟩
      have HQ := Lib.hid hq
      have HN : Hid (q = false → Hid (∀ j, j < i + 1 → (S.ru.getD j ru0) = (S2.ru.getD j ru0))) := Lib.hid fun h => Lib.hid fun j hj => by
       rcases Nat.lt_succ_iff_lt_or_eq.1 hj with g | rfl
       ·exact HE.out j g
       ·rw [hx, hy]
        rw [h] at hq
        simpa using hq
      have HX : Hid (q = true → false = r) := Lib.hid fun h => by
       rw [h] at hq
       refine HRR.out fun e => ?_
       have hne : ¬ x = y := by simpa using hq
       apply hne
       rw [← hx, ← hy]
       exact (by rw [e])
      rw [hx] at hd1
      rw [hy] at hd2
      clear hx hy hq HE
      obtain ⟨xnm, xfr, xto_, xmo, ⟨xko, xvo, xdw⟩, xat_, xck, xsv, xle⟩ := x
      obtain ⟨ynm, yfr, yto_, ymo, ⟨yko, yvo, ydw⟩, yat_, yck, ysv, yle⟩ := y
      obtain ⟨XNM, rfl⟩ := bs_of xnm
      obtain ⟨XLE, rfl⟩ := bs_of xle
      obtain ⟨YNM, rfl⟩ := bs_of ynm
      obtain ⟨YLE, rfl⟩ := bs_of yle
      have d0 : wr.cell? ⟨b, o + i * 11, none⟩ = some (.string XNM) := keepCell HBW.out (hd1 0 _ (by decide) rfl)
      have d1 : wr.cell? ⟨b, o + i * 11 + 1, none⟩ = some (.int .i64 xfr) := keepCell HBW.out (hd1 1 _ (by decide) rfl)
      have d2 : wr.cell? ⟨b, o + i * 11 + 2, none⟩ = some (.int .i64 xto_) := keepCell HBW.out (hd1 2 _ (by decide) rfl)
      have d3 : wr.cell? ⟨b, o + i * 11 + 3, none⟩ = some (.int .i64 xmo) := keepCell HBW.out (hd1 3 _ (by decide) rfl)
      have d4 : wr.cell? ⟨b, o + i * 11 + 4, none⟩ = some (.int .i64 xko) := keepCell HBW.out (hd1 4 _ (by decide) rfl)
      have d5 : wr.cell? ⟨b, o + i * 11 + 5, none⟩ = some (.int .i64 xvo) := keepCell HBW.out (hd1 5 _ (by decide) rfl)
      have d6 : wr.cell? ⟨b, o + i * 11 + 6, none⟩ = some (.int .i64 xdw) := keepCell HBW.out (hd1 6 _ (by decide) rfl)
      have d7 : wr.cell? ⟨b, o + i * 11 + 7, none⟩ = some (.int .i64 xat_) := keepCell HBW.out (hd1 7 _ (by decide) rfl)
      have d8 : wr.cell? ⟨b, o + i * 11 + 8, none⟩ = some (.int .i64 xck) := keepCell HBW.out (hd1 8 _ (by decide) rfl)
      have d9 : wr.cell? ⟨b, o + i * 11 + 9, none⟩ = some (.int .i64 xsv) := keepCell HBW.out (hd1 9 _ (by decide) rfl)
      have d10 : wr.cell? ⟨b, o + i * 11 + 10, none⟩ = some (.string XLE) := keepCell HBW.out (hd1 10 _ (by decide) rfl)
      have e0 : wr.cell? ⟨b', o' + i * 11, none⟩ = some (.string YNM) := keepCell HBW.out (hd2 0 _ (by decide) rfl)
      have e1 : wr.cell? ⟨b', o' + i * 11 + 1, none⟩ = some (.int .i64 yfr) := keepCell HBW.out (hd2 1 _ (by decide) rfl)
      have e2 : wr.cell? ⟨b', o' + i * 11 + 2, none⟩ = some (.int .i64 yto_) := keepCell HBW.out (hd2 2 _ (by decide) rfl)
      have e3 : wr.cell? ⟨b', o' + i * 11 + 3, none⟩ = some (.int .i64 ymo) := keepCell HBW.out (hd2 3 _ (by decide) rfl)
      have e4 : wr.cell? ⟨b', o' + i * 11 + 4, none⟩ = some (.int .i64 yko) := keepCell HBW.out (hd2 4 _ (by decide) rfl)
      have e5 : wr.cell? ⟨b', o' + i * 11 + 5, none⟩ = some (.int .i64 yvo) := keepCell HBW.out (hd2 5 _ (by decide) rfl)
      have e6 : wr.cell? ⟨b', o' + i * 11 + 6, none⟩ = some (.int .i64 ydw) := keepCell HBW.out (hd2 6 _ (by decide) rfl)
      have e7 : wr.cell? ⟨b', o' + i * 11 + 7, none⟩ = some (.int .i64 yat_) := keepCell HBW.out (hd2 7 _ (by decide) rfl)
      have e8 : wr.cell? ⟨b', o' + i * 11 + 8, none⟩ = some (.int .i64 yck) := keepCell HBW.out (hd2 8 _ (by decide) rfl)
      have e9 : wr.cell? ⟨b', o' + i * 11 + 9, none⟩ = some (.int .i64 ysv) := keepCell HBW.out (hd2 9 _ (by decide) rfl)
      have e10 : wr.cell? ⟨b', o' + i * 11 + 10, none⟩ = some (.string YLE) := keepCell HBW.out (hd2 10 _ (by decide) rfl)
      clear hd1 hd2
      have HBD : Hid (Below X.heap.size X wr.drew) := Lib.hid HBx.out.drew
      go_upto_region 6 with fail
      refine wp_region_held_drew (S := fun w' => w'.cell? ⟨b2, 0, none⟩ = some (.slice (some ⟨b, o, none⟩) S.ru.length rc) ∧ w'.cell? ⟨b3, 0, none⟩ = some (.slice (some ⟨b', o', none⟩) S.ru.length rc2) ∧ w'.cell? ⟨b, o + i * 11, none⟩ = some (.string XNM) ∧ w'.cell? ⟨b, o + i * 11 + 1, none⟩ = some (.int .i64 xfr) ∧ w'.cell? ⟨b, o + i * 11 + 2, none⟩ = some (.int .i64 xto_) ∧ w'.cell? ⟨b, o + i * 11 + 3, none⟩ = some (.int .i64 xmo) ∧ w'.cell? ⟨b, o + i * 11 + 4, none⟩ = some (.int .i64 xko) ∧ w'.cell? ⟨b, o + i * 11 + 5, none⟩ = some (.int .i64 xvo) ∧ w'.cell? ⟨b, o + i * 11 + 6, none⟩ = some (.int .i64 xdw) ∧ w'.cell? ⟨b, o + i * 11 + 7, none⟩ = some (.int .i64 xat_) ∧ w'.cell? ⟨b, o + i * 11 + 8, none⟩ = some (.int .i64 xck) ∧ w'.cell? ⟨b, o + i * 11 + 9, none⟩ = some (.int .i64 xsv) ∧ w'.cell? ⟨b, o + i * 11 + 10, none⟩ = some (.string XLE) ∧ w'.cell? ⟨b', o' + i * 11, none⟩ = some (.string YNM) ∧ w'.cell? ⟨b', o' + i * 11 + 1, none⟩ = some (.int .i64 yfr) ∧ w'.cell? ⟨b', o' + i * 11 + 2, none⟩ = some (.int .i64 yto_) ∧ w'.cell? ⟨b', o' + i * 11 + 3, none⟩ = some (.int .i64 ymo) ∧ w'.cell? ⟨b', o' + i * 11 + 4, none⟩ = some (.int .i64 yko) ∧ w'.cell? ⟨b', o' + i * 11 + 5, none⟩ = some (.int .i64 yvo) ∧ w'.cell? ⟨b', o' + i * 11 + 6, none⟩ = some (.int .i64 ydw) ∧ w'.cell? ⟨b', o' + i * 11 + 7, none⟩ = some (.int .i64 yat_) ∧ w'.cell? ⟨b', o' + i * 11 + 8, none⟩ = some (.int .i64 yck) ∧ w'.cell? ⟨b', o' + i * 11 + 9, none⟩ = some (.int .i64 ysv) ∧ w'.cell? ⟨b', o' + i * 11 + 10, none⟩ = some (.string YLE)) (by kernel_rfl) ?_ (fun hHeld => ?_)
      ·exact ⟨z2, z3, d0, d1, d2, d3, d4, d5, d6, d7, d8, d9, d10, e0, e1, e2, e3, e4, e5, e6, e7, e8, e9, e10⟩
      refine wpAnyH_take (i := 0) (v := ?v35) rfl (by kernel_rfl) (by kernel_rfl) (by kernel_rfl) (fun _ _ _ h => h) (Or.inl ⟨by rfl, ?hy35⟩) (by assumption) ?rest35
      case hy35 =>
       intro w hSw
       try dsimp only at hSw
       go_simp
       try with_reducible rfl
      case rest35 =>
      refine wpAnyH_take (i := 1) (v := ?v36) rfl (by kernel_rfl) (by kernel_rfl) (by kernel_rfl) (fun _ _ _ h => h) (Or.inl ⟨by rfl, ?hy36⟩) (by assumption) ?rest36
      case hy36 =>
       intro w hSw
       try dsimp only at hSw
       go_simp
       try with_reducible rfl
      case rest36 =>
      refine wpAnyH_take (i := 2) (v := ?v37) rfl (by kernel_rfl) (by kernel_rfl) (by kernel_rfl) (fun _ _ _ h => h) (Or.inl ⟨by rfl, ?hy37⟩) (by assumption) ?rest37
      case hy37 =>
       intro w hSw
       try dsimp only at hSw
       go_simp
       try with_reducible rfl
      case rest37 =>
      refine wpAnyH_take (i := 3) (v := ?v38) rfl (by kernel_rfl) (by kernel_rfl) (by kernel_rfl) (fun _ _ _ h => h) (Or.inl ⟨by rfl, ?hy38⟩) (by assumption) ?rest38
      case hy38 =>
       intro w hSw
       try dsimp only at hSw
       go_simp
       try with_reducible rfl
      case rest38 =>
      refine wpAnyH_take (i := 4) (v := ?v39) rfl (by kernel_rfl) (by kernel_rfl) (by kernel_rfl) (fun _ _ _ h => h) (Or.inl ⟨by rfl, ?hy39⟩) (by assumption) ?rest39
      case hy39 =>
       intro w hSw
       try dsimp only at hSw
       go_simp
       try with_reducible rfl
      case rest39 =>
      refine wpAnyH_take (i := 5) (v := ?v40) rfl (by kernel_rfl) (by kernel_rfl) (by kernel_rfl) (fun _ _ _ h => h) (Or.inl ⟨by rfl, ?hy40⟩) (by assumption) ?rest40
      case hy40 =>
       intro w hSw
       try dsimp only at hSw
       go_simp
       try with_reducible rfl
      case rest40 =>
      refine wpAnyH_take (i := 6) (v := ?v41) rfl (by kernel_rfl) (by kernel_rfl) (by kernel_rfl) (fun _ _ _ h => h) (Or.inl ⟨by rfl, ?hy41⟩) (by assumption) ?rest41
      case hy41 =>
       intro w hSw
       try dsimp only at hSw
       go_simp
       try with_reducible rfl
      case rest41 =>
      refine wpAnyH_take (i := 7) (v := ?v42) rfl (by kernel_rfl) (by kernel_rfl) (by kernel_rfl) (fun _ _ _ h => h) (Or.inl ⟨by rfl, ?hy42⟩) (by assumption) ?rest42
      case hy42 =>
       intro w hSw
       try dsimp only at hSw
       go_simp
       try with_reducible rfl
      case rest42 =>
      refine wpAnyH_take (i := 8) (v := ?v43) rfl (by kernel_rfl) (by kernel_rfl) (by kernel_rfl) (fun _ _ _ h => h) (Or.inl ⟨by rfl, ?hy43⟩) (by assumption) ?rest43
      case hy43 =>
       intro w hSw
       try dsimp only at hSw
       go_simp
       try with_reducible rfl
      case rest43 =>
      refine wpAnyH_take (i := 9) (v := ?v44) rfl (by kernel_rfl) (by kernel_rfl) (by kernel_rfl) (fun _ _ _ h => h) (Or.inl ⟨by rfl, ?hy44⟩) (by assumption) ?rest44
      case hy44 =>
       intro w hSw
       try dsimp only at hSw
       go_simp
       try with_reducible rfl
      case rest44 =>
      refine wpAnyH_take (i := 10) (v := .bool q) rfl (by kernel_rfl) (by kernel_rfl) (by kernel_rfl) (fun _ _ _ h => h) (Or.inl ⟨by rfl, ?hy34⟩) (by assumption) ?rest34
      case hy34 =>
       intro w hSw
       clear hSw
       go_simp
       rw [← HQ.out]
       exact (neq_step (neq_step (neq_step (neq_step (neq_step (neq_step (neq_step (neq_step (neq_step (neq_step (neq_step (neq_end w)))))))))))).trans (congrArg (fun b => Result.ok (Next.value (Value.bool (!b))) w) (decide_eq_decide.2 (by simp only [RuT.mk.injEq, OnT.mk.injEq, bsT, and_assoc, and_true])))
      case rest34 =>
      refine wpAnyH_done (by kernel_rfl) ?_ _
      go_simp
      cases q with
      | false =>
       go_wp2_with fail
       go_roundw
       case rel => exact ⟨i + 1, by go_num, by omega, HN.out (by trivial), HBD⟩
       case measure => simp [intOf]; omega
      | true =>
       go_wp2_with fail
       go_ret
       exact ⟨ret_bool (HX.out (by trivial)), keepBelow HBX.out HBD.out⟩
     ·obtain rfl : i = S.ru.length := by omega
      have z2 : wr.cell? ⟨b2, 0, none⟩ = some (.slice ra S.ru.length rc) := (HX2.out.below HBx.out).cell (j := 0) rfl
      have z3 : wr.cell? ⟨b3, 0, none⟩ = some (.slice ra2 S.ru.length rc2) := (HX3.out.below HBx.out).cell (j := 0) rfl
      have HER : Hid (S.ru = S2.ru) := Lib.hid (list_ext HLR.out HE.out)
      clear HE
      go_upto_region 9 with fail
      clear z2 z3 HBW
      generalize wr = Wp at *
      go_loopw [6] (fun u wx => ∃ i : Nat, u = .int .i64 i ∧ i ≤ S.lk.length ∧ Hid (∀ j, j < i → (S.lk.getD j lk0) = (S2.lk.getD j lk0)) ∧ Hid (Below X.heap.size X wx)) (fun u _ => S.lk.length - (intOf u).toNat)
      case atStart => exact ⟨0, rfl, Nat.zero_le _, Lib.hid fun j hj => by omega, HBx⟩
      case round =>
       clear HBx
       obtain ⟨i, rfl, hi, HE, HBx⟩ := hrel
       have HBW := Lib.hid (keepBelow HBX.out HBx.out)
       by_cases hlt : i < S.lk.length
       ·have hlt2 : (i : Int) < (S.lk.length : Int) := by omega
        have hi0 : (0 : Int) ≤ (i : Int) := Int.natCast_nonneg _
        obtain ⟨b, o, ea, hd1⟩ := HK1.out i hlt
        obtain ⟨b', o', eb, hd2⟩ := HK2.out i hlt
        subst ea eb
        have z2 : wr.cell? ⟨b2, 2, none⟩ = some (.slice (some ⟨b, o, none⟩) S.lk.length lc) := (HX2.out.below HBx.out).cell (j := 2) rfl
        have z3 : wr.cell? ⟨b3, 2, none⟩ = some (.slice (some ⟨b', o', none⟩) S.lk.length lc2) := (HX3.out.below HBx.out).cell (j := 2) rfl
        obtain ⟨x, hx⟩ : ∃ x, S.lk.getD i lk0 = x := ⟨_, rfl⟩
        obtain ⟨y, hy⟩ : ∃ y, S2.lk.getD i lk0 = y := ⟨_, rfl⟩
        obtain ⟨q, hq⟩ : ∃ q, (!decide (x = y)) = q := ⟨_, rfl⟩
        have HQ := Lib.hid hq
        have HN : Hid (q = false → Hid (∀ j, j < i + 1 → (S.lk.getD j lk0) = (S2.lk.getD j lk0))) := Lib.hid fun h => Lib.hid fun j hj => by
         rcases Nat.lt_succ_iff_lt_or_eq.1 hj with g | rfl
         ·exact HE.out j g
         ·rw [hx, hy]
          rw [h] at hq
          simpa using hq
        have HX : Hid (q = true → false = r) := Lib.hid fun h => by
         rw [h] at hq
         refine HRK.out fun e => ?_
         have hne : ¬ x = y := by simpa using hq
         apply hne
         rw [← hx, ← hy]
         exact (by rw [e])
        rw [hx] at hd1
        rw [hy] at hd2
        clear hx hy hq HE
        obtain ⟨xnm, xzo⟩ := x
        obtain ⟨ynm, yzo⟩ := y
        obtain ⟨XNM, rfl⟩ := bs_of xnm
        obtain ⟨XZO, rfl⟩ := bs_of xzo
        obtain ⟨YNM, rfl⟩ := bs_of ynm
        obtain ⟨YZO, rfl⟩ := bs_of yzo
        have d0 : wr.cell? ⟨b, o + i * 2, none⟩ = some (.string XNM) := keepCell HBW.out (hd1 0 _ (by decide) rfl)
        have d1 : wr.cell? ⟨b, o + i * 2 + 1, none⟩ = some (.string XZO) := keepCell HBW.out (hd1 1 _ (by decide) rfl)
        have e0 : wr.cell? ⟨b', o' + i * 2, none⟩ = some (.string YNM) := keepCell HBW.out (hd2 0 _ (by decide) rfl)
        have e1 : wr.cell? ⟨b', o' + i * 2 + 1, none⟩ = some (.string YZO) := keepCell HBW.out (hd2 1 _ (by decide) rfl)
        clear hd1 hd2
        have HBD : Hid (Below X.heap.size X wr.drew) := Lib.hid HBx.out.drew
        go_upto_region 11 with fail
        refine wp_region_held_drew (S := fun w' => w'.cell? ⟨b2, 2, none⟩ = some (.slice (some ⟨b, o, none⟩) S.lk.length lc) ∧ w'.cell? ⟨b3, 2, none⟩ = some (.slice (some ⟨b', o', none⟩) S.lk.length lc2) ∧ w'.cell? ⟨b, o + i * 2, none⟩ = some (.string XNM) ∧ w'.cell? ⟨b, o + i * 2 + 1, none⟩ = some (.string XZO) ∧ w'.cell? ⟨b', o' + i * 2, none⟩ = some (.string YNM) ∧ w'.cell? ⟨b', o' + i * 2 + 1, none⟩ = some (.string YZO)) (by kernel_rfl) ?_ (fun hHeld => ?_)
        ·exact ⟨z2, z3, d0, d1, e0, e1⟩
        refine wpAnyH_take (i := 0) (v := ?v24) rfl (by kernel_rfl) (by kernel_rfl) (by kernel_rfl) (fun _ _ _ h => h) (Or.inl ⟨by rfl, ?hy24⟩) (by assumption) ?rest24
        case hy24 =>
         intro w hSw
         try dsimp only at hSw
         go_simp
         try with_reducible rfl
        case rest24 =>
        refine wpAnyH_take (i := 1) (v := ?v25) rfl (by kernel_rfl) (by kernel_rfl) (by kernel_rfl) (fun _ _ _ h => h) (Or.inl ⟨by rfl, ?hy25⟩) (by assumption) ?rest25
        case hy25 =>
         intro w hSw
         try dsimp only at hSw
         go_simp
         try with_reducible rfl
        case rest25 =>
        refine wpAnyH_take (i := 2) (v := ?v26) rfl (by kernel_rfl) (by kernel_rfl) (by kernel_rfl) (fun _ _ _ h => h) (Or.inl ⟨by rfl, ?hy26⟩) (by assumption) ?rest26
        case hy26 =>
         intro w hSw
         try dsimp only at hSw
         go_simp
         try with_reducible rfl
        case rest26 =>
        refine wpAnyH_take (i := 3) (v := ?v27) rfl (by kernel_rfl) (by kernel_rfl) (by kernel_rfl) (fun _ _ _ h => h) (Or.inl ⟨by rfl, ?hy27⟩) (by assumption) ?rest27
        case hy27 =>
         intro w hSw
         try dsimp only at hSw
         go_simp
         try with_reducible rfl
        case rest27 =>
        refine wpAnyH_take (i := 4) (v := ?v28) rfl (by kernel_rfl) (by kernel_rfl) (by kernel_rfl) (fun _ _ _ h => h) (Or.inl ⟨by rfl, ?hy28⟩) (by assumption) ?rest28
        case hy28 =>
         intro w hSw
         try dsimp only at hSw
         go_simp
         try with_reducible rfl
        case rest28 =>
        refine wpAnyH_take (i := 5) (v := ?v29) rfl (by kernel_rfl) (by kernel_rfl) (by kernel_rfl) (fun _ _ _ h => h) (Or.inl ⟨by rfl, ?hy29⟩) (by assumption) ?rest29
        case hy29 =>
         intro w hSw
         try dsimp only at hSw
         go_simp
         try with_reducible rfl
        case rest29 =>
        refine wpAnyH_take (i := 6) (v := ?v30) rfl (by kernel_rfl) (by kernel_rfl) (by kernel_rfl) (fun _ _ _ h => h) (Or.inl ⟨by rfl, ?hy30⟩) (by assumption) ?rest30
        case hy30 =>
         intro w hSw
         try dsimp only at hSw
         go_simp
         try with_reducible rfl
        case rest30 =>
        refine wpAnyH_take (i := 7) (v := ?v31) rfl (by kernel_rfl) (by kernel_rfl) (by kernel_rfl) (fun _ _ _ h => h) (Or.inl ⟨by rfl, ?hy31⟩) (by assumption) ?rest31
        case hy31 =>
         intro w hSw
         try dsimp only at hSw
         go_simp
         try with_reducible rfl
        case rest31 =>
        refine wpAnyH_take (i := 8) (v := ?v32) rfl (by kernel_rfl) (by kernel_rfl) (by kernel_rfl) (fun _ _ _ h => h) (Or.inl ⟨by rfl, ?hy32⟩) (by assumption) ?rest32
        case hy32 =>
         intro w hSw
         try dsimp only at hSw
         go_simp
         try with_reducible rfl
        case rest32 =>
        refine wpAnyH_take (i := 9) (v := ?v33) rfl (by kernel_rfl) (by kernel_rfl) (by kernel_rfl) (fun _ _ _ h => h) (Or.inl ⟨by rfl, ?hy33⟩) (by assumption) ?rest33
        case hy33 =>
         intro w hSw
         try dsimp only at hSw
         go_simp
         try with_reducible rfl
        case rest33 =>
        refine wpAnyH_take (i := 10) (v := .bool q) rfl (by kernel_rfl) (by kernel_rfl) (by kernel_rfl) (fun _ _ _ h => h) (Or.inl ⟨by rfl, ?hy23⟩) (by assumption) ?rest23
        case hy23 =>
         intro w hSw
         clear hSw
         go_simp
         rw [← HQ.out]
         exact (neq_step (neq_step (neq_end w))).trans (congrArg (fun b => Result.ok (Next.value (Value.bool (!b))) w) (decide_eq_decide.2 (by simp only [LkT.mk.injEq, bsT, and_true])))
        case rest23 =>
        refine wpAnyH_done (by kernel_rfl) ?_ _
        go_simp
        cases q with
        | false =>
         go_wp2_with fail
         go_roundw
         case rel => exact ⟨i + 1, by go_num, by omega, HN.out (by trivial), HBD⟩
         case measure => simp [intOf]; omega
        | true =>
         go_wp2_with fail
         go_ret
         exact ⟨ret_bool (HX.out (by trivial)), keepBelow HBX.out HBD.out⟩
       ·obtain rfl : i = S.lk.length := by omega
        have z2 : wr.cell? ⟨b2, 2, none⟩ = some (.slice la S.lk.length lc) := (HX2.out.below HBx.out).cell (j := 2) rfl
        have z3 : wr.cell? ⟨b3, 2, none⟩ = some (.slice la2 S.lk.length lc2) := (HX3.out.below HBx.out).cell (j := 2) rfl
        have HEK : Hid (S.lk = S2.lk) := Lib.hid (list_ext HLK.out HE.out)
        clear HE
        go_upto_region 14 with fail
        clear z2 z3 HBW
        generalize wr = Wq at *
        go_loopw [7] (fun u wx => ∃ i : Nat, u = .int .i64 i ∧ i ≤ Z.length ∧ Hid (∀ j, j < i → (Z.getD j zk0).1 = (Z2.getD j zk0).1) ∧ Hid (Below X.heap.size X wx)) (fun u _ => Z.length - (intOf u).toNat)
        case atStart => exact ⟨0, rfl, Nat.zero_le _, Lib.hid fun j hj => by omega, HBx⟩
        case round =>
         clear HBx
         obtain ⟨i, rfl, hi, HE, HBx⟩ := hrel
         have HBW := Lib.hid (keepBelow HBX.out HBx.out)
         by_cases hlt : i < Z.length
         ·have hlt2 : (i : Int) < (Z.length : Int) := by omega
          have hi0 : (0 : Int) ≤ (i : Int) := Int.natCast_nonneg _
          obtain ⟨b, o, ea, hd1⟩ := HZ1.out i hlt
          obtain ⟨b', o', eb, hd2⟩ := HZ2.out i hlt
          subst ea eb
          have z2 : wr.cell? ⟨b2, 1, none⟩ = some (.slice (some ⟨b, o, none⟩) Z.length zc) := (HX2.out.below HBx.out).cell (j := 1) rfl
          have z3 : wr.cell? ⟨b3, 1, none⟩ = some (.slice (some ⟨b', o', none⟩) Z.length zc2) := (HX3.out.below HBx.out).cell (j := 1) rfl
          have hl1 := HL1.out i hlt
          have hl2 := HL2.out i (by have := HLZ.out; omega)
          obtain ⟨x, hx⟩ : ∃ x, Z.getD i zk0 = x := ⟨_, rfl⟩
          obtain ⟨y, hy⟩ : ∃ y, Z2.getD i zk0 = y := ⟨_, rfl⟩
          obtain ⟨q, hq⟩ : ∃ q, (!decide (x.1 = y.1)) = q := ⟨_, rfl⟩
          have HQ := Lib.hid hq
          have HN : Hid (q = false → Hid (∀ j, j < i + 1 → (Z.getD j zk0).1 = (Z2.getD j zk0).1)) := Lib.hid fun h => Lib.hid fun j hj => by
           rcases Nat.lt_succ_iff_lt_or_eq.1 hj with g | rfl
           ·exact HE.out j g
           ·rw [hx, hy]
            rw [h] at hq
            simpa using hq
          have HX : Hid (q = true → false = r) := Lib.hid fun h => by
           rw [h] at hq
           refine HRZ.out fun e => ?_
           have hne : ¬ x.1 = y.1 := by simpa using hq
           apply hne
           rw [← hx, ← hy]
           exact getD_eq_of_map e hlt
          rw [hx] at hd1
          rw [hy] at hd2
          rw [hx] at hl1
          rw [hy] at hl2
          clear hx hy hq HE
          obtain ⟨⟨xnm, xli⟩, xlv⟩ := x
          obtain ⟨⟨ynm, yli⟩, ylv⟩ := y
          obtain ⟨XNM, rfl⟩ := bs_of xnm
          obtain ⟨YNM, rfl⟩ := bs_of ynm
          obtain ⟨xa, xc, rfl⟩ : ∃ a c, xlv = .slice a xli.length c := RdG.form hl1
          obtain ⟨ya, yc, rfl⟩ : ∃ a c, ylv = .slice a yli.length c := RdG.form hl2
          have d0 : wr.cell? ⟨b, o + i * 2, none⟩ = some (.string XNM) := keepCell HBW.out (hd1 0 _ (by decide) rfl)
          have d1 : wr.cell? ⟨b, o + i * 2 + 1, none⟩ = some (.slice xa xli.length xc) := keepCell HBW.out (hd1 1 _ (by decide) rfl)
          have e0 : wr.cell? ⟨b', o' + i * 2, none⟩ = some (.string YNM) := keepCell HBW.out (hd2 0 _ (by decide) rfl)
          have e1 : wr.cell? ⟨b', o' + i * 2 + 1, none⟩ = some (.slice ya yli.length yc) := keepCell HBW.out (hd2 1 _ (by decide) rfl)
          clear hd1 hd2
          have HSZ : Hid (∀ W, Below wr.heap.size wr W → Calls Tryz.prog 22 #[.agg #[.string XNM, .slice xa xli.length xc], .agg #[.string YNM, .slice ya yli.length yc]] W fun e w' => e = .returned (.bool !q) ∧ Below W.heap.size W w') := Lib.hid fun W hW => by
           have g := sameZone_any XNM YNM _ _ xli yli W (RdG.below (RdG.below hl1 HBW.out) hW) (RdG.below (RdG.below hl2 HBW.out) hW)
           rw [← HQ.out, Bool.not_not]
           exact g
          have HSK : Hid (∀ w', Below wr.heap.size wr w' → w'.cell? ⟨b2, 1, none⟩ = some (.slice (some ⟨b, o, none⟩) Z.length zc) ∧ w'.cell? ⟨b3, 1, none⟩ = some (.slice (some ⟨b', o', none⟩) Z.length zc2) ∧ w'.cell? ⟨b, o + i * 2, none⟩ = some (.string XNM) ∧ w'.cell? ⟨b, o + i * 2 + 1, none⟩ = some (.slice xa xli.length xc) ∧ w'.cell? ⟨b', o' + i * 2, none⟩ = some (.string YNM) ∧ w'.cell? ⟨b', o' + i * 2 + 1, none⟩ = some (.slice ya yli.length yc)) := Lib.hid fun w' hW => ⟨keepCell hW z2, keepCell hW z3, keepCell hW d0, keepCell hW d1, keepCell hW e0, keepCell hW e1⟩
          clear hl1 hl2
          go_upto_region 16 with fail
          refine wp_region_held_drew (S := fun w' => w'.cell? ⟨b2, 1, none⟩ = some (.slice (some ⟨b, o, none⟩) Z.length zc) ∧ w'.cell? ⟨b3, 1, none⟩ = some (.slice (some ⟨b', o', none⟩) Z.length zc2) ∧ w'.cell? ⟨b, o + i * 2, none⟩ = some (.string XNM) ∧ w'.cell? ⟨b, o + i * 2 + 1, none⟩ = some (.slice xa xli.length xc) ∧ w'.cell? ⟨b', o' + i * 2, none⟩ = some (.string YNM) ∧ w'.cell? ⟨b', o' + i * 2 + 1, none⟩ = some (.slice ya yli.length yc)) (by kernel_rfl) ?_ (fun hHeld => ?_)
          ·exact ⟨z2, z3, d0, d1, e0, e1⟩
          refine wpAnyH_take (i := 0) (v := ?v12) rfl (by kernel_rfl) (by kernel_rfl) (by kernel_rfl) (fun _ _ _ h => h) (Or.inl ⟨by rfl, ?hy12⟩) (by assumption) ?rest12
          case hy12 =>
           intro w hSw
           try dsimp only at hSw
           go_simp
           try with_reducible rfl
          case rest12 =>
          refine wpAnyH_take (i := 1) (v := ?v13) rfl (by kernel_rfl) (by kernel_rfl) (by kernel_rfl) (fun _ _ _ h => h) (Or.inl ⟨by rfl, ?hy13⟩) (by assumption) ?rest13
          case hy13 =>
           intro w hSw
           try dsimp only at hSw
           go_simp
           try with_reducible rfl
          case rest13 =>
          refine wpAnyH_take (i := 2) (v := ?v14) rfl (by kernel_rfl) (by kernel_rfl) (by kernel_rfl) (fun _ _ _ h => h) (Or.inl ⟨by rfl, ?hy14⟩) (by assumption) ?rest14
          case hy14 =>
           intro w hSw
           try dsimp only at hSw
           go_simp
           try with_reducible rfl
          case rest14 =>
          refine wpAnyH_take (i := 3) (v := ?v15) rfl (by kernel_rfl) (by kernel_rfl) (by kernel_rfl) (fun _ _ _ h => h) (Or.inl ⟨by rfl, ?hy15⟩) (by assumption) ?rest15
          case hy15 =>
           intro w hSw
           try dsimp only at hSw
           go_simp
           try with_reducible rfl
          case rest15 =>
          refine wpAnyH_take (i := 4) (v := ?v16) rfl (by kernel_rfl) (by kernel_rfl) (by kernel_rfl) (fun _ _ _ h => h) (Or.inl ⟨by rfl, ?hy16⟩) (by assumption) ?rest16
          case hy16 =>
           intro w hSw
           try dsimp only at hSw
           go_simp
           try with_reducible rfl
          case rest16 =>
          refine wpAnyH_take (i := 5) (v := ?v17) rfl (by kernel_rfl) (by kernel_rfl) (by kernel_rfl) (fun _ _ _ h => h) (Or.inl ⟨by rfl, ?hy17⟩) (by assumption) ?rest17
          case hy17 =>
           intro w hSw
           try dsimp only at hSw
           go_simp
           try with_reducible rfl
          case rest17 =>
          refine wpAnyH_take (i := 6) (v := ?v18) rfl (by kernel_rfl) (by kernel_rfl) (by kernel_rfl) (fun _ _ _ h => h) (Or.inl ⟨by rfl, ?hy18⟩) (by assumption) ?rest18
          case hy18 =>
           intro w hSw
           try dsimp only at hSw
           go_simp
           try with_reducible rfl
          case rest18 =>
          refine wpAnyH_take (i := 7) (v := ?v19) rfl (by kernel_rfl) (by kernel_rfl) (by kernel_rfl) (fun _ _ _ h => h) (Or.inl ⟨by rfl, ?hy19⟩) (by assumption) ?rest19
          case hy19 =>
           intro w hSw
           try dsimp only at hSw
           go_simp
           try with_reducible rfl
          case rest19 =>
          refine wpAnyH_take (i := 8) (v := ?v20) rfl (by kernel_rfl) (by kernel_rfl) (by kernel_rfl) (fun _ _ _ h => h) (Or.inl ⟨by rfl, ?hy20⟩) (by assumption) ?rest20
          case hy20 =>
           intro w hSw
           try dsimp only at hSw
           go_simp
           try with_reducible rfl
          case rest20 =>
          refine wpAnyH_take (i := 9) (v := ?v21) rfl (by kernel_rfl) (by kernel_rfl) (by kernel_rfl) (fun _ _ _ h => h) (Or.inl ⟨by rfl, ?hy21⟩) (by assumption) ?rest21
          case hy21 =>
           intro w hSw
           try dsimp only at hSw
           go_simp
           try with_reducible rfl
          case rest21 =>
          go_simp
          refine wpAnyH_ready (rs := [10]) (by kernel_rfl) (by simp) ?_
          refine AllReadyH.cons rfl (fun K hK => ?_) AllReadyH.nil
          go_simp
          go_at_call 22
          refine (HSZ.out _ ((Below.refl _ wr).drew)).mono ?_
          rintro e w8 ⟨rfl, hb8⟩
          have HBD : Hid (Below X.heap.size X w8) := Lib.hid (keepBelow HBx.out.drew hb8)
          have HS8 := Lib.hid (HSK.out _ (keepBelow ((Below.refl _ wr).drew) hb8))
          clear hb8
          refine hK.out _ _ ?_ (fun hHeld => ?_)
          ·exact HS8.out
          clear hK K
          refine wpAnyH_take (i := 11) (v := ?v22) rfl (by kernel_rfl) (by kernel_rfl) (by kernel_rfl) (fun _ _ _ h => h) (Or.inl ⟨by rfl, ?hy22⟩) (by assumption) ?rest22
          case hy22 =>
           intro w hSw
           try dsimp only at hSw
           go_simp
           try with_reducible rfl
          case rest22 =>
          refine wpAnyH_done (by kernel_rfl) ?_ _
          go_simp
          cases q with
          | false =>
           go_wp2_with fail
           go_roundw
           case rel => exact ⟨i + 1, by go_num, by omega, HN.out (by trivial), HBD⟩
           case measure => simp [intOf]; omega
          | true =>
           go_wp2_with fail
           go_ret
           exact ⟨ret_bool (HX.out (by trivial)), keepBelow HBX.out HBD.out⟩
         ·obtain rfl : i = Z.length := by omega
          have z2 : wr.cell? ⟨b2, 1, none⟩ = some (.slice za Z.length zc) := (HX2.out.below HBx.out).cell (j := 1) rfl
          have z3 : wr.cell? ⟨b3, 1, none⟩ = some (.slice za2 Z.length zc2) := (HX3.out.below HBx.out).cell (j := 1) rfl
          have HEZ : Hid (Z.map Prod.fst = Z2.map Prod.fst) := Lib.hid (map_ext HLZ.out HE.out)
          clear HE
          have HT := Lib.hid (HRT.out HER.out HEK.out HEZ.out)
          go_wp2_with fail
          go_ret
          exact ⟨ret_bool HT.out, HBW.out⟩
   ·have g1 : ((S.ru.length : Int) != (S2.ru.length : Int)) = false := by rw [k1]; simp
    have g2 : ((Z.length : Int) != (Z2.length : Int)) = false := by rw [k2]; simp
    have g3 : ((S.lk.length : Int) != (S2.lk.length : Int)) = true := by simpa using fun e => k3 (by omega)
    have HF := Lib.hid (HRK.out fun e => k3 (by rw [e]))
    clear k1 k2 k3
    go_enter Tryz.func14, Tryz.ntmps14
    go_upto_region 1 with fail
    obtain ⟨b2, hb2⟩ : ∃ b, w.heap.size = b := ⟨_, rfl⟩
    obtain ⟨b3, hb3⟩ : ∃ b, w.heap.size + 1 = b := ⟨_, rfl⟩
    obtain ⟨X, hX⟩ : ∃ X, (w.alloc (.cells #[.slice ra S.ru.length rc, .slice za Z.length zc, .slice la S.lk.length lc] 27)).alloc (.cells #[.slice ra2 S2.ru.length rc2, .slice za2 Z2.length zc2, .slice la2 S2.lk.length lc2] 27) = X := ⟨_, rfl⟩
    have HBX : Hid (Below w.heap.size w X) := Lib.hid (by rw [← hX]; exact ((Below.refl _ w).alloc (Nat.le_refl _) _).alloc (by simp) _)
    have HX2 : Hid (Blk X b2 #[.slice ra S.ru.length rc, .slice za Z.length zc, .slice la S.lk.length lc] 27) := Lib.hid (by rw [← hX, ← hb2]; exact (Blk.new w _ _).below ((Below.refl _ _).alloc (Nat.le_refl _) _))
    have HX3 : Hid (Blk X b3 #[.slice ra2 S2.ru.length rc2, .slice za2 Z2.length zc2, .slice la2 S2.lk.length lc2] 27) := Lib.hid (by
     rw [← hX, ← hb3]
     have q := Blk.new (w.alloc (.cells #[.slice ra S.ru.length rc, .slice za Z.length zc, .slice la S.lk.length lc] 27)) #[.slice ra2 S2.ru.length rc2, .slice za2 Z2.length zc2, .slice la2 S2.lk.length lc2] 27
     simpa using q)
    try rw [hX]
    try rw [hb3]
    try rw [hb2]
    clear hX hb2 hb3
    have x0 := HX2.out.cell (j := 0) rfl
    have x1 := HX2.out.cell (j := 1) rfl
    have x2 := HX2.out.cell (j := 2) rfl
    have y0 := HX3.out.cell (j := 0) rfl
    have y1 := HX3.out.cell (j := 1) rfl
    have y2 := HX3.out.cell (j := 2) rfl
    go_wp2_with fail
    go_ret
    exact ⟨ret_bool HF.out, HBX.out⟩
  ·have g1 : ((S.ru.length : Int) != (S2.ru.length : Int)) = false := by rw [k1]; simp
   have g2 : ((Z.length : Int) != (Z2.length : Int)) = true := by simpa using fun e => k2 (by omega)
   have HF := Lib.hid (HRZ.out fun e => k2 (by simpa using (congrArg List.length e).symm))
   clear k1 k2
   go_enter Tryz.func14, Tryz.ntmps14
   go_upto_region 1 with fail
   obtain ⟨b2, hb2⟩ : ∃ b, w.heap.size = b := ⟨_, rfl⟩
   obtain ⟨b3, hb3⟩ : ∃ b, w.heap.size + 1 = b := ⟨_, rfl⟩
   obtain ⟨X, hX⟩ : ∃ X, (w.alloc (.cells #[.slice ra S.ru.length rc, .slice za Z.length zc, .slice la S.lk.length lc] 27)).alloc (.cells #[.slice ra2 S2.ru.length rc2, .slice za2 Z2.length zc2, .slice la2 S2.lk.length lc2] 27) = X := ⟨_, rfl⟩
   have HBX : Hid (Below w.heap.size w X) := Lib.hid (by rw [← hX]; exact ((Below.refl _ w).alloc (Nat.le_refl _) _).alloc (by simp) _)
   have HX2 : Hid (Blk X b2 #[.slice ra S.ru.length rc, .slice za Z.length zc, .slice la S.lk.length lc] 27) := Lib.hid (by rw [← hX, ← hb2]; exact (Blk.new w _ _).below ((Below.refl _ _).alloc (Nat.le_refl _) _))
   have HX3 : Hid (Blk X b3 #[.slice ra2 S2.ru.length rc2, .slice za2 Z2.length zc2, .slice la2 S2.lk.length lc2] 27) := Lib.hid (by
    rw [← hX, ← hb3]
    have q := Blk.new (w.alloc (.cells #[.slice ra S.ru.length rc, .slice za Z.length zc, .slice la S.lk.length lc] 27)) #[.slice ra2 S2.ru.length rc2, .slice za2 Z2.length zc2, .slice la2 S2.lk.length lc2] 27
    simpa using q)
   try rw [hX]
   try rw [hb3]
   try rw [hb2]
   clear hX hb2 hb3
   have x0 := HX2.out.cell (j := 0) rfl
   have x1 := HX2.out.cell (j := 1) rfl
   have x2 := HX2.out.cell (j := 2) rfl
   have y0 := HX3.out.cell (j := 0) rfl
   have y1 := HX3.out.cell (j := 1) rfl
   have y2 := HX3.out.cell (j := 2) rfl
   go_wp2_with fail
   go_ret
   exact ⟨ret_bool HF.out, HBX.out⟩
 ·have g1 : ((S.ru.length : Int) != (S2.ru.length : Int)) = true := by simpa using fun e => k1 (by omega)
  have HF := Lib.hid (HRR.out fun e => k1 (by rw [e]))
  clear k1
  go_enter Tryz.func14, Tryz.ntmps14
  go_upto_region 1 with fail
  obtain ⟨b2, hb2⟩ : ∃ b, w.heap.size = b := ⟨_, rfl⟩
  obtain ⟨b3, hb3⟩ : ∃ b, w.heap.size + 1 = b := ⟨_, rfl⟩
  obtain ⟨X, hX⟩ : ∃ X, (w.alloc (.cells #[.slice ra S.ru.length rc, .slice za Z.length zc, .slice la S.lk.length lc] 27)).alloc (.cells #[.slice ra2 S2.ru.length rc2, .slice za2 Z2.length zc2, .slice la2 S2.lk.length lc2] 27) = X := ⟨_, rfl⟩
  have HBX : Hid (Below w.heap.size w X) := Lib.hid (by rw [← hX]; exact ((Below.refl _ w).alloc (Nat.le_refl _) _).alloc (by simp) _)
  have HX2 : Hid (Blk X b2 #[.slice ra S.ru.length rc, .slice za Z.length zc, .slice la S.lk.length lc] 27) := Lib.hid (by rw [← hX, ← hb2]; exact (Blk.new w _ _).below ((Below.refl _ _).alloc (Nat.le_refl _) _))
  have HX3 : Hid (Blk X b3 #[.slice ra2 S2.ru.length rc2, .slice za2 Z2.length zc2, .slice la2 S2.lk.length lc2] 27) := Lib.hid (by
   rw [← hX, ← hb3]
   have q := Blk.new (w.alloc (.cells #[.slice ra S.ru.length rc, .slice za Z.length zc, .slice la S.lk.length lc] 27)) #[.slice ra2 S2.ru.length rc2, .slice za2 Z2.length zc2, .slice la2 S2.lk.length lc2] 27
   simpa using q)
  try rw [hX]
  try rw [hb3]
  try rw [hb2]
  clear hX hb2 hb3
  have x0 := HX2.out.cell (j := 0) rfl
  have x1 := HX2.out.cell (j := 1) rfl
  have x2 := HX2.out.cell (j := 2) rfl
  have y0 := HX3.out.cell (j := 0) rfl
  have y1 := HX3.out.cell (j := 1) rfl
  have y2 := HX3.out.cell (j := 2) rfl
  go_wp2_with fail
  go_ret
  exact ⟨ret_bool HF.out, HBX.out⟩
end Go.Proofs.YtlbglinpgjlbkaaGreatDoor
