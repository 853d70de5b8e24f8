import Derived.Test.YtlbglinpgjlbkaaGreatDoorWkQn
import Derived.OrdersHeld
/- Zone texts: slices.Equal at rules, links, lines, texts. Printed by gen_eq.py. No conditions. -/
namespace Go.Proofs.YtlbglinpgjlbkaaGreatDoor
open Go.RowKit Wk

theorem neq_step {c d : Prop} [Decidable c] [Decidable d] {w : World} {X : Result Next} (h : X = Result.ok (Next.value (Value.bool !decide d)) w) : (if c then X else Result.ok (Next.value (Value.bool true)) w) = Result.ok (Next.value (Value.bool !decide (c ∧ d))) w := by
 by_cases hc : c
 ·rw [if_pos hc, h]
  simp [hc]
 ·rw [if_neg hc]
  simp [hc]
theorem neq_end (w : World) : Result.ok (Next.value (Value.bool false)) w = Result.ok (Next.value (Value.bool !decide True)) w := rfl
theorem bsT (a : ByteArray) : a.toList = bsO a := by rw [Lib.toList_data]
set_option maxRecDepth 100000 in
set_option maxHeartbeats 4000000 in
theorem eq_rule (v1 v2 : Value) (L M : List RuT) (w : World) (h1 : RdRu w v1 L) (h2 : RdRu w v2 M) :
  Calls Tryz.prog 26 #[v1, v2] w fun e w' => e = .returned (.bool (decide (L = M))) ∧ Below w.heap.size w w' := by
 obtain ⟨a1, c1, rfl, hl1, hc1⟩ := h1
 obtain ⟨a2, c2, rfl, hl2, hc2⟩ := h2
 have HC1 := Lib.hid hc1
 have HC2 := Lib.hid hc2
 clear hc1 hc2
 go_enter Tryz.func26, Tryz.ntmps26
 by_cases hlen : L.length = M.length
 ·have hln : ((L.length : Int) != (M.length : Int)) = false := by rw [hlen]; simp
  rw [← hlen] at HC2 hl2 ⊢
  have HLE := Lib.hid hlen
  clear hln hlen
  go_wp2_with fail
  go_loopw [5, 13] (fun _ u wr => ∃ i : Nat, u = .int .i64 i ∧ i ≤ L.length ∧ Hid (∀ j, j < i → L.getD j ru0 = M.getD j ru0) ∧ Hid (Below w.heap.size w wr)) (fun _ u _ => L.length - (intOf u).toNat)
  case atStart => exact ⟨0, rfl, Nat.zero_le _, Lib.hid fun j hj => by omega, Below.refl _ _⟩
  case round =>
   obtain ⟨i, rfl, hi, HE, HB⟩ := hrel
   have HBD : Hid (Below w.heap.size w wr.drew) := Lib.hid HB.out.drew
   by_cases hlt : i < L.length
   ·have hlt2 : (i : Int) < (L.length : Int) := by omega
    have hi0 : (0 : Int) ≤ (i : Int) := Int.natCast_nonneg _
    obtain ⟨b, o, rfl, hd1⟩ := HC1.out i hlt
    obtain ⟨b', o', rfl, hd2⟩ := HC2.out i hlt
    obtain ⟨x, hx⟩ : ∃ x, L.getD i ru0 = x := ⟨_, rfl⟩
    obtain ⟨y, hy⟩ : ∃ y, M.getD i ru0 = y := ⟨_, rfl⟩
    obtain ⟨q, hq⟩ : ∃ q, (!decide (x = y)) = q := ⟨_, rfl⟩
    have HQ := Lib.hid hq
    have HN : Hid (q = false → Hid (∀ j, j < i + 1 → L.getD j ru0 = M.getD j ru0)) := Lib.hid fun h => Lib.hid fun j hj => by
     rcases Nat.lt_succ_iff_lt_or_eq.1 hj with g | rfl
     ·exact HE.out j g
     ·rw [hx, hy]
      rw [h] at hq
      simpa using hq
    have HX : Hid (q = true → false = decide (L = M)) := Lib.hid fun h => by
     refine (decide_eq_false fun e => ?_).symm
     rw [h] at hq
     rw [← hx, ← hy, e] at hq
     simp at hq
    rw [hx] at hd1
    rw [hy] at hd2
    clear hx hy hq HE
    obtain ⟨xnm, xfr, xto_, xmo, ⟨xko, xvo, xdw⟩, xat_, xck, xsv, xle⟩ := x
    obtain ⟨ynm, yfr, yto_, ymo, ⟨yko, yvo, ydw⟩, yat_, yck, ysv, yle⟩ := y
    obtain ⟨XNM, rfl⟩ := bs_of xnm
    obtain ⟨XLE, rfl⟩ := bs_of xle
    obtain ⟨YNM, rfl⟩ := bs_of ynm
    obtain ⟨YLE, rfl⟩ := bs_of yle
    have d0 : wr.cell? ⟨b, o + i * 11, none⟩ = some (.string XNM) := keepCell HB.out (hd1 0 _ (by decide) rfl)
    have d1 : wr.cell? ⟨b, o + i * 11 + 1, none⟩ = some (.int .i64 xfr) := keepCell HB.out (hd1 1 _ (by decide) rfl)
    have d2 : wr.cell? ⟨b, o + i * 11 + 2, none⟩ = some (.int .i64 xto_) := keepCell HB.out (hd1 2 _ (by decide) rfl)
    have d3 : wr.cell? ⟨b, o + i * 11 + 3, none⟩ = some (.int .i64 xmo) := keepCell HB.out (hd1 3 _ (by decide) rfl)
    have d4 : wr.cell? ⟨b, o + i * 11 + 4, none⟩ = some (.int .i64 xko) := keepCell HB.out (hd1 4 _ (by decide) rfl)
    have d5 : wr.cell? ⟨b, o + i * 11 + 5, none⟩ = some (.int .i64 xvo) := keepCell HB.out (hd1 5 _ (by decide) rfl)
    have d6 : wr.cell? ⟨b, o + i * 11 + 6, none⟩ = some (.int .i64 xdw) := keepCell HB.out (hd1 6 _ (by decide) rfl)
    have d7 : wr.cell? ⟨b, o + i * 11 + 7, none⟩ = some (.int .i64 xat_) := keepCell HB.out (hd1 7 _ (by decide) rfl)
    have d8 : wr.cell? ⟨b, o + i * 11 + 8, none⟩ = some (.int .i64 xck) := keepCell HB.out (hd1 8 _ (by decide) rfl)
    have d9 : wr.cell? ⟨b, o + i * 11 + 9, none⟩ = some (.int .i64 xsv) := keepCell HB.out (hd1 9 _ (by decide) rfl)
    have d10 : wr.cell? ⟨b, o + i * 11 + 10, none⟩ = some (.string XLE) := keepCell HB.out (hd1 10 _ (by decide) rfl)
    have e0 : wr.cell? ⟨b', o' + i * 11, none⟩ = some (.string YNM) := keepCell HB.out (hd2 0 _ (by decide) rfl)
    have e1 : wr.cell? ⟨b', o' + i * 11 + 1, none⟩ = some (.int .i64 yfr) := keepCell HB.out (hd2 1 _ (by decide) rfl)
    have e2 : wr.cell? ⟨b', o' + i * 11 + 2, none⟩ = some (.int .i64 yto_) := keepCell HB.out (hd2 2 _ (by decide) rfl)
    have e3 : wr.cell? ⟨b', o' + i * 11 + 3, none⟩ = some (.int .i64 ymo) := keepCell HB.out (hd2 3 _ (by decide) rfl)
    have e4 : wr.cell? ⟨b', o' + i * 11 + 4, none⟩ = some (.int .i64 yko) := keepCell HB.out (hd2 4 _ (by decide) rfl)
    have e5 : wr.cell? ⟨b', o' + i * 11 + 5, none⟩ = some (.int .i64 yvo) := keepCell HB.out (hd2 5 _ (by decide) rfl)
    have e6 : wr.cell? ⟨b', o' + i * 11 + 6, none⟩ = some (.int .i64 ydw) := keepCell HB.out (hd2 6 _ (by decide) rfl)
    have e7 : wr.cell? ⟨b', o' + i * 11 + 7, none⟩ = some (.int .i64 yat_) := keepCell HB.out (hd2 7 _ (by decide) rfl)
    have e8 : wr.cell? ⟨b', o' + i * 11 + 8, none⟩ = some (.int .i64 yck) := keepCell HB.out (hd2 8 _ (by decide) rfl)
    have e9 : wr.cell? ⟨b', o' + i * 11 + 9, none⟩ = some (.int .i64 ysv) := keepCell HB.out (hd2 9 _ (by decide) rfl)
    have e10 : wr.cell? ⟨b', o' + i * 11 + 10, none⟩ = some (.string YLE) := keepCell HB.out (hd2 10 _ (by decide) rfl)
    clear hd1 hd2
    go_upto_region 6 with fail
    refine wp_region_held_drew (S := fun w' => w'.cell? ⟨b, o + i * 11, none⟩ = some (.string XNM) ∧ w'.cell? ⟨b, o + i * 11 + 1, none⟩ = some (.int .i64 xfr) ∧ w'.cell? ⟨b, o + i * 11 + 2, none⟩ = some (.int .i64 xto_) ∧ w'.cell? ⟨b, o + i * 11 + 3, none⟩ = some (.int .i64 xmo) ∧ w'.cell? ⟨b, o + i * 11 + 4, none⟩ = some (.int .i64 xko) ∧ w'.cell? ⟨b, o + i * 11 + 5, none⟩ = some (.int .i64 xvo) ∧ w'.cell? ⟨b, o + i * 11 + 6, none⟩ = some (.int .i64 xdw) ∧ w'.cell? ⟨b, o + i * 11 + 7, none⟩ = some (.int .i64 xat_) ∧ w'.cell? ⟨b, o + i * 11 + 8, none⟩ = some (.int .i64 xck) ∧ w'.cell? ⟨b, o + i * 11 + 9, none⟩ = some (.int .i64 xsv) ∧ w'.cell? ⟨b, o + i * 11 + 10, none⟩ = some (.string XLE) ∧ w'.cell? ⟨b', o' + i * 11, none⟩ = some (.string YNM) ∧ w'.cell? ⟨b', o' + i * 11 + 1, none⟩ = some (.int .i64 yfr) ∧ w'.cell? ⟨b', o' + i * 11 + 2, none⟩ = some (.int .i64 yto_) ∧ w'.cell? ⟨b', o' + i * 11 + 3, none⟩ = some (.int .i64 ymo) ∧ w'.cell? ⟨b', o' + i * 11 + 4, none⟩ = some (.int .i64 yko) ∧ w'.cell? ⟨b', o' + i * 11 + 5, none⟩ = some (.int .i64 yvo) ∧ w'.cell? ⟨b', o' + i * 11 + 6, none⟩ = some (.int .i64 ydw) ∧ w'.cell? ⟨b', o' + i * 11 + 7, none⟩ = some (.int .i64 yat_) ∧ w'.cell? ⟨b', o' + i * 11 + 8, none⟩ = some (.int .i64 yck) ∧ w'.cell? ⟨b', o' + i * 11 + 9, none⟩ = some (.int .i64 ysv) ∧ w'.cell? ⟨b', o' + i * 11 + 10, none⟩ = some (.string YLE)) (by kernel_rfl) ?_ (fun hHeld => ?_)
    ·exact ⟨d0, d1, d2, d3, d4, d5, d6, d7, d8, d9, d10, e0, e1, e2, e3, e4, e5, e6, e7, e8, e9, e10⟩
    refine wpAnyH_take (i := 0) (v := ?v2) rfl (by kernel_rfl) (by kernel_rfl) (by kernel_rfl) (fun _ _ _ h => h) (Or.inl ⟨by rfl, ?hy2⟩) (by assumption) ?rest2
    case hy2 =>
     intro w hSw
     try dsimp only at hSw
     go_simp
     try with_reducible rfl
    case rest2 =>
    refine wpAnyH_take (i := 1) (v := ?v3) rfl (by kernel_rfl) (by kernel_rfl) (by kernel_rfl) (fun _ _ _ h => h) (Or.inl ⟨by rfl, ?hy3⟩) (by assumption) ?rest3
    case hy3 =>
     intro w hSw
     try dsimp only at hSw
     go_simp
     try with_reducible rfl
    case rest3 =>
    refine wpAnyH_take (i := 2) (v := ?v4) rfl (by kernel_rfl) (by kernel_rfl) (by kernel_rfl) (fun _ _ _ h => h) (Or.inl ⟨by rfl, ?hy4⟩) (by assumption) ?rest4
    case hy4 =>
     intro w hSw
     try dsimp only at hSw
     go_simp
     try with_reducible rfl
    case rest4 =>
    refine wpAnyH_take (i := 3) (v := ?v5) rfl (by kernel_rfl) (by kernel_rfl) (by kernel_rfl) (fun _ _ _ h => h) (Or.inl ⟨by rfl, ?hy5⟩) (by assumption) ?rest5
    case hy5 =>
     intro w hSw
     try dsimp only at hSw
     go_simp
     try with_reducible rfl
    case rest5 =>
    refine wpAnyH_take (i := 4) (v := ?v6) rfl (by kernel_rfl) (by kernel_rfl) (by kernel_rfl) (fun _ _ _ h => h) (Or.inl ⟨by rfl, ?hy6⟩) (by assumption) ?rest6
    case hy6 =>
     intro w hSw
     try dsimp only at hSw
     go_simp
     try with_reducible rfl
    case rest6 =>
    refine wpAnyH_take (i := 5) (v := ?v7) rfl (by kernel_rfl) (by kernel_rfl) (by kernel_rfl) (fun _ _ _ h => h) (Or.inl ⟨by rfl, ?hy7⟩) (by assumption) ?rest7
    case hy7 =>
     intro w hSw
     try dsimp only at hSw
     go_simp
     try with_reducible rfl
    case rest7 =>
    refine wpAnyH_take (i := 6) (v := ?v8) rfl (by kernel_rfl) (by kernel_rfl) (by kernel_rfl) (fun _ _ _ h => h) (Or.inl ⟨by rfl, ?hy8⟩) (by assumption) ?rest8
    case hy8 =>
     intro w hSw
     try dsimp only at hSw
     go_simp
     try with_reducible rfl
    case rest8 =>
    refine wpAnyH_take (i := 7) (v := ?v9) rfl (by kernel_rfl) (by kernel_rfl) (by kernel_rfl) (fun _ _ _ h => h) (Or.inl ⟨by rfl, ?hy9⟩) (by assumption) ?rest9
    case hy9 =>
     intro w hSw
     try dsimp only at hSw
     go_simp
     try with_reducible rfl
    case rest9 =>
    refine wpAnyH_take (i := 8) (v := .bool q) rfl (by kernel_rfl) (by kernel_rfl) (by kernel_rfl) (fun _ _ _ h => h) (Or.inl ⟨by rfl, ?hy1⟩) (by assumption) ?rest1
    case hy1 =>
     intro w hSw
     clear hSw
     go_simp
     rw [← HQ.out]
     exact (neq_step (neq_step (neq_step (neq_step (neq_step (neq_step (neq_step (neq_step (neq_step (neq_step (neq_step (neq_end w)))))))))))).trans (congrArg (fun b => Result.ok (Next.value (Value.bool (!b))) w) (decide_eq_decide.2 (by simp only [RuT.mk.injEq, OnT.mk.injEq, bsT, and_assoc, and_true])))
    case rest1 =>
    refine wpAnyH_done (by kernel_rfl) ?_ _
    go_simp
    cases q with
    | false =>
     go_wp2_with fail
     go_roundw
     case rel => exact ⟨i + 1, by go_num, by omega, HN.out (by trivial), HBD⟩
     case measure => simp [intOf]; omega
    | true =>
     go_wp2_with fail
     go_ret
     exact ⟨ret_bool (HX.out (by trivial)), HBD.out⟩
   ·have hEQ : L = M := List.ext_getElem HLE.out fun j g1 g2 => by
     have := HE.out j (by omega)
     rw [List.getD_eq_getElem?_getD, List.getD_eq_getElem?_getD, List.getElem?_eq_getElem g1, List.getElem?_eq_getElem g2] at this
     exact this
    have HT : Hid (true = decide (L = M)) := Lib.hid (decide_eq_true hEQ).symm
    have hlt2 : ¬(i : Int) < (L.length : Int) := by omega
    clear hEQ
    go_wp2_with fail
    go_ret
    exact ⟨ret_bool HT.out, HB.out⟩
 ·have hln : ((L.length : Int) != (M.length : Int)) = true := by simpa using fun e => hlen (by omega)
  have HF : Hid (false = decide (L = M)) := Lib.hid (decide_eq_false fun e => hlen (by rw [e])).symm
  clear hlen
  go_wp2_with fail
  go_ret
  exact ⟨ret_bool HF.out, Below.refl _ _⟩
set_option maxRecDepth 100000 in
set_option maxHeartbeats 4000000 in
theorem eq_link (v1 v2 : Value) (L M : List LkT) (w : World) (h1 : RdLk w v1 L) (h2 : RdLk w v2 M) :
  Calls Tryz.prog 80 #[v1, v2] w fun e w' => e = .returned (.bool (decide (L = M))) ∧ Below w.heap.size w w' := by
 obtain ⟨a1, c1, rfl, hl1, hc1⟩ := h1
 obtain ⟨a2, c2, rfl, hl2, hc2⟩ := h2
 have HC1 := Lib.hid hc1
 have HC2 := Lib.hid hc2
 clear hc1 hc2
 go_enter Tryz.func80, Tryz.ntmps80
 by_cases hlen : L.length = M.length
 ·have hln : ((L.length : Int) != (M.length : Int)) = false := by rw [hlen]; simp
  rw [← hlen] at HC2 hl2 ⊢
  have HLE := Lib.hid hlen
  clear hln hlen
  go_wp2_with fail
  go_loopw [5, 13] (fun _ u wr => ∃ i : Nat, u = .int .i64 i ∧ i ≤ L.length ∧ Hid (∀ j, j < i → L.getD j lk0 = M.getD j lk0) ∧ Hid (Below w.heap.size w wr)) (fun _ u _ => L.length - (intOf u).toNat)
  case atStart => exact ⟨0, rfl, Nat.zero_le _, Lib.hid fun j hj => by omega, Below.refl _ _⟩
  case round =>
   obtain ⟨i, rfl, hi, HE, HB⟩ := hrel
   have HBD : Hid (Below w.heap.size w wr.drew) := Lib.hid HB.out.drew
   by_cases hlt : i < L.length
   ·have hlt2 : (i : Int) < (L.length : Int) := by omega
    have hi0 : (0 : Int) ≤ (i : Int) := Int.natCast_nonneg _
    obtain ⟨b, o, rfl, hd1⟩ := HC1.out i hlt
    obtain ⟨b', o', rfl, hd2⟩ := HC2.out i hlt
    obtain ⟨x, hx⟩ : ∃ x, L.getD i lk0 = x := ⟨_, rfl⟩
    obtain ⟨y, hy⟩ : ∃ y, M.getD i lk0 = y := ⟨_, rfl⟩
    obtain ⟨q, hq⟩ : ∃ q, (!decide (x = y)) = q := ⟨_, rfl⟩
    have HQ := Lib.hid hq
    have HN : Hid (q = false → Hid (∀ j, j < i + 1 → L.getD j lk0 = M.getD j lk0)) := Lib.hid fun h => Lib.hid fun j hj => by
     rcases Nat.lt_succ_iff_lt_or_eq.1 hj with g | rfl
     ·exact HE.out j g
     ·rw [hx, hy]
      rw [h] at hq
      simpa using hq
    have HX : Hid (q = true → false = decide (L = M)) := Lib.hid fun h => by
     refine (decide_eq_false fun e => ?_).symm
     rw [h] at hq
     rw [← hx, ← hy, e] at hq
     simp at hq
    rw [hx] at hd1
    rw [hy] at hd2
    clear hx hy hq HE
    obtain ⟨xnm, xzo⟩ := x
    obtain ⟨ynm, yzo⟩ := y
    obtain ⟨XNM, rfl⟩ := bs_of xnm
    obtain ⟨XZO, rfl⟩ := bs_of xzo
    obtain ⟨YNM, rfl⟩ := bs_of ynm
    obtain ⟨YZO, rfl⟩ := bs_of yzo
    have d0 : wr.cell? ⟨b, o + i * 2, none⟩ = some (.string XNM) := keepCell HB.out (hd1 0 _ (by decide) rfl)
    have d1 : wr.cell? ⟨b, o + i * 2 + 1, none⟩ = some (.string XZO) := keepCell HB.out (hd1 1 _ (by decide) rfl)
    have e0 : wr.cell? ⟨b', o' + i * 2, none⟩ = some (.string YNM) := keepCell HB.out (hd2 0 _ (by decide) rfl)
    have e1 : wr.cell? ⟨b', o' + i * 2 + 1, none⟩ = some (.string YZO) := keepCell HB.out (hd2 1 _ (by decide) rfl)
    clear hd1 hd2
    go_upto_region 6 with fail
    refine wp_region_held_drew (S := fun w' => w'.cell? ⟨b, o + i * 2, none⟩ = some (.string XNM) ∧ w'.cell? ⟨b, o + i * 2 + 1, none⟩ = some (.string XZO) ∧ w'.cell? ⟨b', o' + i * 2, none⟩ = some (.string YNM) ∧ w'.cell? ⟨b', o' + i * 2 + 1, none⟩ = some (.string YZO)) (by kernel_rfl) ?_ (fun hHeld => ?_)
    ·exact ⟨d0, d1, e0, e1⟩
    refine wpAnyH_take (i := 0) (v := ?v11) rfl (by kernel_rfl) (by kernel_rfl) (by kernel_rfl) (fun _ _ _ h => h) (Or.inl ⟨by rfl, ?hy11⟩) (by assumption) ?rest11
    case hy11 =>
     intro w hSw
     try dsimp only at hSw
     go_simp
     try with_reducible rfl
    case rest11 =>
    refine wpAnyH_take (i := 1) (v := ?v12) rfl (by kernel_rfl) (by kernel_rfl) (by kernel_rfl) (fun _ _ _ h => h) (Or.inl ⟨by rfl, ?hy12⟩) (by assumption) ?rest12
    case hy12 =>
     intro w hSw
     try dsimp only at hSw
     go_simp
     try with_reducible rfl
    case rest12 =>
    refine wpAnyH_take (i := 2) (v := ?v13) rfl (by kernel_rfl) (by kernel_rfl) (by kernel_rfl) (fun _ _ _ h => h) (Or.inl ⟨by rfl, ?hy13⟩) (by assumption) ?rest13
    case hy13 =>
     intro w hSw
     try dsimp only at hSw
     go_simp
     try with_reducible rfl
    case rest13 =>
    refine wpAnyH_take (i := 3) (v := ?v14) rfl (by kernel_rfl) (by kernel_rfl) (by kernel_rfl) (fun _ _ _ h => h) (Or.inl ⟨by rfl, ?hy14⟩) (by assumption) ?rest14
    case hy14 =>
     intro w hSw
     try dsimp only at hSw
     go_simp
     try with_reducible rfl
    case rest14 =>
    refine wpAnyH_take (i := 4) (v := ?v15) rfl (by kernel_rfl) (by kernel_rfl) (by kernel_rfl) (fun _ _ _ h => h) (Or.inl ⟨by rfl, ?hy15⟩) (by assumption) ?rest15
    case hy15 =>
     intro w hSw
     try dsimp only at hSw
     go_simp
     try with_reducible rfl
    case rest15 =>
    refine wpAnyH_take (i := 5) (v := ?v16) rfl (by kernel_rfl) (by kernel_rfl) (by kernel_rfl) (fun _ _ _ h => h) (Or.inl ⟨by rfl, ?hy16⟩) (by assumption) ?rest16
    case hy16 =>
     intro w hSw
     try dsimp only at hSw
     go_simp
     try with_reducible rfl
    case rest16 =>
    refine wpAnyH_take (i := 6) (v := ?v17) rfl (by kernel_rfl) (by kernel_rfl) (by kernel_rfl) (fun _ _ _ h => h) (Or.inl ⟨by rfl, ?hy17⟩) (by assumption) ?rest17
    case hy17 =>
     intro w hSw
     try dsimp only at hSw
     go_simp
     try with_reducible rfl
    case rest17 =>
    refine wpAnyH_take (i := 7) (v := ?v18) rfl (by kernel_rfl) (by kernel_rfl) (by kernel_rfl) (fun _ _ _ h => h) (Or.inl ⟨by rfl, ?hy18⟩) (by assumption) ?rest18
    case hy18 =>
     intro w hSw
     try dsimp only at hSw
     go_simp
     try with_reducible rfl
    case rest18 =>
    refine wpAnyH_take (i := 8) (v := .bool q) rfl (by kernel_rfl) (by kernel_rfl) (by kernel_rfl) (fun _ _ _ h => h) (Or.inl ⟨by rfl, ?hy10⟩) (by assumption) ?rest10
    case hy10 =>
     intro w hSw
     clear hSw
     go_simp
     rw [← HQ.out]
     exact (neq_step (neq_step (neq_end w))).trans (congrArg (fun b => Result.ok (Next.value (Value.bool (!b))) w) (decide_eq_decide.2 (by simp only [LkT.mk.injEq, bsT, and_true])))
    case rest10 =>
    refine wpAnyH_done (by kernel_rfl) ?_ _
    go_simp
    cases q with
    | false =>
     go_wp2_with fail
     go_roundw
     case rel => exact ⟨i + 1, by go_num, by omega, HN.out (by trivial), HBD⟩
     case measure => simp [intOf]; omega
    | true =>
     go_wp2_with fail
     go_ret
     exact ⟨ret_bool (HX.out (by trivial)), HBD.out⟩
   ·have hEQ : L = M := List.ext_getElem HLE.out fun j g1 g2 => by
     have := HE.out j (by omega)
     rw [List.getD_eq_getElem?_getD, List.getD_eq_getElem?_getD, List.getElem?_eq_getElem g1, List.getElem?_eq_getElem g2] at this
     exact this
    have HT : Hid (true = decide (L = M)) := Lib.hid (decide_eq_true hEQ).symm
    have hlt2 : ¬(i : Int) < (L.length : Int) := by omega
    clear hEQ
    go_wp2_with fail
    go_ret
    exact ⟨ret_bool HT.out, HB.out⟩
 ·have hln : ((L.length : Int) != (M.length : Int)) = true := by simpa using fun e => hlen (by omega)
  have HF : Hid (false = decide (L = M)) := Lib.hid (decide_eq_false fun e => hlen (by rw [e])).symm
  clear hlen
  go_wp2_with fail
  go_ret
  exact ⟨ret_bool HF.out, Below.refl _ _⟩
set_option maxRecDepth 100000 in
set_option maxHeartbeats 4000000 in
theorem eq_line (v1 v2 : Value) (L M : List LiT) (w : World) (h1 : RdLi w v1 L) (h2 : RdLi w v2 M) :
  Calls Tryz.prog 83 #[v1, v2] w fun e w' => e = .returned (.bool (decide (L = M))) ∧ Below w.heap.size w w' := by
 obtain ⟨a1, c1, rfl, hl1, hc1⟩ := h1
 obtain ⟨a2, c2, rfl, hl2, hc2⟩ := h2
 have HC1 := Lib.hid hc1
 have HC2 := Lib.hid hc2
 clear hc1 hc2
 go_enter Tryz.func83, Tryz.ntmps83
 by_cases hlen : L.length = M.length
 ·have hln : ((L.length : Int) != (M.length : Int)) = false := by rw [hlen]; simp
  rw [← hlen] at HC2 hl2 ⊢
  have HLE := Lib.hid hlen
  clear hln hlen
  go_wp2_with fail
  go_loopw [5, 13] (fun _ u wr => ∃ i : Nat, u = .int .i64 i ∧ i ≤ L.length ∧ Hid (∀ j, j < i → L.getD j li0 = M.getD j li0) ∧ Hid (Below w.heap.size w wr)) (fun _ u _ => L.length - (intOf u).toNat)
  case atStart => exact ⟨0, rfl, Nat.zero_le _, Lib.hid fun j hj => by omega, Below.refl _ _⟩
  case round =>
   obtain ⟨i, rfl, hi, HE, HB⟩ := hrel
   have HBD : Hid (Below w.heap.size w wr.drew) := Lib.hid HB.out.drew
   by_cases hlt : i < L.length
   ·have hlt2 : (i : Int) < (L.length : Int) := by omega
    have hi0 : (0 : Int) ≤ (i : Int) := Int.natCast_nonneg _
    obtain ⟨b, o, rfl, hd1⟩ := HC1.out i hlt
    obtain ⟨b', o', rfl, hd2⟩ := HC2.out i hlt
    obtain ⟨x, hx⟩ : ∃ x, L.getD i li0 = x := ⟨_, rfl⟩
    obtain ⟨y, hy⟩ : ∃ y, M.getD i li0 = y := ⟨_, rfl⟩
    obtain ⟨q, hq⟩ : ∃ q, (!decide (x = y)) = q := ⟨_, rfl⟩
    have HQ := Lib.hid hq
    have HN : Hid (q = false → Hid (∀ j, j < i + 1 → L.getD j li0 = M.getD j li0)) := Lib.hid fun h => Lib.hid fun j hj => by
     rcases Nat.lt_succ_iff_lt_or_eq.1 hj with g | rfl
     ·exact HE.out j g
     ·rw [hx, hy]
      rw [h] at hq
      simpa using hq
    have HX : Hid (q = true → false = decide (L = M)) := Lib.hid fun h => by
     refine (decide_eq_false fun e => ?_).symm
     rw [h] at hq
     rw [← hx, ← hy, e] at hq
     simp at hq
    rw [hx] at hd1
    rw [hy] at hd2
    clear hx hy hq HE
    obtain ⟨xof, xru, xsv, xfm, xla, ⟨xyr, xmo, ⟨xko, xvo, xdw⟩, xat_, xck⟩⟩ := x
    obtain ⟨yof, yru, ysv, yfm, yla, ⟨yyr, ymo, ⟨yko, yvo, ydw⟩, yat_, yck⟩⟩ := y
    obtain ⟨XRU, rfl⟩ := bs_of xru
    obtain ⟨XFM, rfl⟩ := bs_of xfm
    obtain ⟨YRU, rfl⟩ := bs_of yru
    obtain ⟨YFM, rfl⟩ := bs_of yfm
    have d0 : wr.cell? ⟨b, o + i * 12, none⟩ = some (.int .i64 xof) := keepCell HB.out (hd1 0 _ (by decide) rfl)
    have d1 : wr.cell? ⟨b, o + i * 12 + 1, none⟩ = some (.string XRU) := keepCell HB.out (hd1 1 _ (by decide) rfl)
    have d2 : wr.cell? ⟨b, o + i * 12 + 2, none⟩ = some (.int .i64 xsv) := keepCell HB.out (hd1 2 _ (by decide) rfl)
    have d3 : wr.cell? ⟨b, o + i * 12 + 3, none⟩ = some (.string XFM) := keepCell HB.out (hd1 3 _ (by decide) rfl)
    have d4 : wr.cell? ⟨b, o + i * 12 + 4, none⟩ = some (.bool xla) := keepCell HB.out (hd1 4 _ (by decide) rfl)
    have d5 : wr.cell? ⟨b, o + i * 12 + 5, none⟩ = some (.int .i64 xyr) := keepCell HB.out (hd1 5 _ (by decide) rfl)
    have d6 : wr.cell? ⟨b, o + i * 12 + 6, none⟩ = some (.int .i64 xmo) := keepCell HB.out (hd1 6 _ (by decide) rfl)
    have d7 : wr.cell? ⟨b, o + i * 12 + 7, none⟩ = some (.int .i64 xko) := keepCell HB.out (hd1 7 _ (by decide) rfl)
    have d8 : wr.cell? ⟨b, o + i * 12 + 8, none⟩ = some (.int .i64 xvo) := keepCell HB.out (hd1 8 _ (by decide) rfl)
    have d9 : wr.cell? ⟨b, o + i * 12 + 9, none⟩ = some (.int .i64 xdw) := keepCell HB.out (hd1 9 _ (by decide) rfl)
    have d10 : wr.cell? ⟨b, o + i * 12 + 10, none⟩ = some (.int .i64 xat_) := keepCell HB.out (hd1 10 _ (by decide) rfl)
    have d11 : wr.cell? ⟨b, o + i * 12 + 11, none⟩ = some (.int .i64 xck) := keepCell HB.out (hd1 11 _ (by decide) rfl)
    have e0 : wr.cell? ⟨b', o' + i * 12, none⟩ = some (.int .i64 yof) := keepCell HB.out (hd2 0 _ (by decide) rfl)
    have e1 : wr.cell? ⟨b', o' + i * 12 + 1, none⟩ = some (.string YRU) := keepCell HB.out (hd2 1 _ (by decide) rfl)
    have e2 : wr.cell? ⟨b', o' + i * 12 + 2, none⟩ = some (.int .i64 ysv) := keepCell HB.out (hd2 2 _ (by decide) rfl)
    have e3 : wr.cell? ⟨b', o' + i * 12 + 3, none⟩ = some (.string YFM) := keepCell HB.out (hd2 3 _ (by decide) rfl)
    have e4 : wr.cell? ⟨b', o' + i * 12 + 4, none⟩ = some (.bool yla) := keepCell HB.out (hd2 4 _ (by decide) rfl)
    have e5 : wr.cell? ⟨b', o' + i * 12 + 5, none⟩ = some (.int .i64 yyr) := keepCell HB.out (hd2 5 _ (by decide) rfl)
    have e6 : wr.cell? ⟨b', o' + i * 12 + 6, none⟩ = some (.int .i64 ymo) := keepCell HB.out (hd2 6 _ (by decide) rfl)
    have e7 : wr.cell? ⟨b', o' + i * 12 + 7, none⟩ = some (.int .i64 yko) := keepCell HB.out (hd2 7 _ (by decide) rfl)
    have e8 : wr.cell? ⟨b', o' + i * 12 + 8, none⟩ = some (.int .i64 yvo) := keepCell HB.out (hd2 8 _ (by decide) rfl)
    have e9 : wr.cell? ⟨b', o' + i * 12 + 9, none⟩ = some (.int .i64 ydw) := keepCell HB.out (hd2 9 _ (by decide) rfl)
    have e10 : wr.cell? ⟨b', o' + i * 12 + 10, none⟩ = some (.int .i64 yat_) := keepCell HB.out (hd2 10 _ (by decide) rfl)
    have e11 : wr.cell? ⟨b', o' + i * 12 + 11, none⟩ = some (.int .i64 yck) := keepCell HB.out (hd2 11 _ (by decide) rfl)
    clear hd1 hd2
    go_upto_region 6 with fail
    refine wp_region_held_drew (S := fun w' => w'.cell? ⟨b, o + i * 12, none⟩ = some (.int .i64 xof) ∧ w'.cell? ⟨b, o + i * 12 + 1, none⟩ = some (.string XRU) ∧ w'.cell? ⟨b, o + i * 12 + 2, none⟩ = some (.int .i64 xsv) ∧ w'.cell? ⟨b, o + i * 12 + 3, none⟩ = some (.string XFM) ∧ w'.cell? ⟨b, o + i * 12 + 4, none⟩ = some (.bool xla) ∧ w'.cell? ⟨b, o + i * 12 + 5, none⟩ = some (.int .i64 xyr) ∧ w'.cell? ⟨b, o + i * 12 + 6, none⟩ = some (.int .i64 xmo) ∧ w'.cell? ⟨b, o + i * 12 + 7, none⟩ = some (.int .i64 xko) ∧ w'.cell? ⟨b, o + i * 12 + 8, none⟩ = some (.int .i64 xvo) ∧ w'.cell? ⟨b, o + i * 12 + 9, none⟩ = some (.int .i64 xdw) ∧ w'.cell? ⟨b, o + i * 12 + 10, none⟩ = some (.int .i64 xat_) ∧ w'.cell? ⟨b, o + i * 12 + 11, none⟩ = some (.int .i64 xck) ∧ w'.cell? ⟨b', o' + i * 12, none⟩ = some (.int .i64 yof) ∧ w'.cell? ⟨b', o' + i * 12 + 1, none⟩ = some (.string YRU) ∧ w'.cell? ⟨b', o' + i * 12 + 2, none⟩ = some (.int .i64 ysv) ∧ w'.cell? ⟨b', o' + i * 12 + 3, none⟩ = some (.string YFM) ∧ w'.cell? ⟨b', o' + i * 12 + 4, none⟩ = some (.bool yla) ∧ w'.cell? ⟨b', o' + i * 12 + 5, none⟩ = some (.int .i64 yyr) ∧ w'.cell? ⟨b', o' + i * 12 + 6, none⟩ = some (.int .i64 ymo) ∧ w'.cell? ⟨b', o' + i * 12 + 7, none⟩ = some (.int .i64 yko) ∧ w'.cell? ⟨b', o' + i * 12 + 8, none⟩ = some (.int .i64 yvo) ∧ w'.cell? ⟨b', o' + i * 12 + 9, none⟩ = some (.int .i64 ydw) ∧ w'.cell? ⟨b', o' + i * 12 + 10, none⟩ = some (.int .i64 yat_) ∧ w'.cell? ⟨b', o' + i * 12 + 11, none⟩ = some (.int .i64 yck)) (by kernel_rfl) ?_ (fun hHeld => ?_)
    ·exact ⟨d0, d1, d2, d3, d4, d5, d6, d7, d8, d9, d10, d11, e0, e1, e2, e3, e4, e5, e6, e7, e8, e9, e10, e11⟩
    refine wpAnyH_take (i := 0) (v := ?v20) rfl (by kernel_rfl) (by kernel_rfl) (by kernel_rfl) (fun _ _ _ h => h) (Or.inl ⟨by rfl, ?hy20⟩) (by assumption) ?rest20
    case hy20 =>
     intro w hSw
     try dsimp only at hSw
     go_simp
     try with_reducible rfl
    case rest20 =>
    refine wpAnyH_take (i := 1) (v := ?v21) rfl (by kernel_rfl) (by kernel_rfl) (by kernel_rfl) (fun _ _ _ h => h) (Or.inl ⟨by rfl, ?hy21⟩) (by assumption) ?rest21
    case hy21 =>
     intro w hSw
     try dsimp only at hSw
     go_simp
     try with_reducible rfl
    case rest21 =>
    refine wpAnyH_take (i := 2) (v := ?v22) rfl (by kernel_rfl) (by kernel_rfl) (by kernel_rfl) (fun _ _ _ h => h) (Or.inl ⟨by rfl, ?hy22⟩) (by assumption) ?rest22
    case hy22 =>
     intro w hSw
     try dsimp only at hSw
     go_simp
     try with_reducible rfl
    case rest22 =>
    refine wpAnyH_take (i := 3) (v := ?v23) rfl (by kernel_rfl) (by kernel_rfl) (by kernel_rfl) (fun _ _ _ h => h) (Or.inl ⟨by rfl, ?hy23⟩) (by assumption) ?rest23
    case hy23 =>
     intro w hSw
     try dsimp only at hSw
     go_simp
     try with_reducible rfl
    case rest23 =>
    refine wpAnyH_take (i := 4) (v := ?v24) rfl (by kernel_rfl) (by kernel_rfl) (by kernel_rfl) (fun _ _ _ h => h) (Or.inl ⟨by rfl, ?hy24⟩) (by assumption) ?rest24
    case hy24 =>
     intro w hSw
     try dsimp only at hSw
     go_simp
     try with_reducible rfl
    case rest24 =>
    refine wpAnyH_take (i := 5) (v := ?v25) rfl (by kernel_rfl) (by kernel_rfl) (by kernel_rfl) (fun _ _ _ h => h) (Or.inl ⟨by rfl, ?hy25⟩) (by assumption) ?rest25
    case hy25 =>
     intro w hSw
     try dsimp only at hSw
     go_simp
     try with_reducible rfl
    case rest25 =>
    refine wpAnyH_take (i := 6) (v := ?v26) rfl (by kernel_rfl) (by kernel_rfl) (by kernel_rfl) (fun _ _ _ h => h) (Or.inl ⟨by rfl, ?hy26⟩) (by assumption) ?rest26
    case hy26 =>
     intro w hSw
     try dsimp only at hSw
     go_simp
     try with_reducible rfl
    case rest26 =>
    refine wpAnyH_take (i := 7) (v := ?v27) rfl (by kernel_rfl) (by kernel_rfl) (by kernel_rfl) (fun _ _ _ h => h) (Or.inl ⟨by rfl, ?hy27⟩) (by assumption) ?rest27
    case hy27 =>
     intro w hSw
     try dsimp only at hSw
     go_simp
     try with_reducible rfl
    case rest27 =>
    refine wpAnyH_take (i := 8) (v := .bool q) rfl (by kernel_rfl) (by kernel_rfl) (by kernel_rfl) (fun _ _ _ h => h) (Or.inl ⟨by rfl, ?hy19⟩) (by assumption) ?rest19
    case hy19 =>
     intro w hSw
     clear hSw
     go_simp
     rw [← HQ.out]
     exact (neq_step (neq_step (neq_step (neq_step (neq_step (neq_step (neq_step (neq_step (neq_step (neq_step (neq_step (neq_step (neq_end w))))))))))))).trans (congrArg (fun b => Result.ok (Next.value (Value.bool (!b))) w) (decide_eq_decide.2 (by simp only [LiT.mk.injEq, UnT.mk.injEq, OnT.mk.injEq, bsT, and_assoc, and_true])))
    case rest19 =>
    refine wpAnyH_done (by kernel_rfl) ?_ _
    go_simp
    cases q with
    | false =>
     go_wp2_with fail
     go_roundw
     case rel => exact ⟨i + 1, by go_num, by omega, HN.out (by trivial), HBD⟩
     case measure => simp [intOf]; omega
    | true =>
     go_wp2_with fail
     go_ret
     exact ⟨ret_bool (HX.out (by trivial)), HBD.out⟩
   ·have hEQ : L = M := List.ext_getElem HLE.out fun j g1 g2 => by
     have := HE.out j (by omega)
     rw [List.getD_eq_getElem?_getD, List.getD_eq_getElem?_getD, List.getElem?_eq_getElem g1, List.getElem?_eq_getElem g2] at this
     exact this
    have HT : Hid (true = decide (L = M)) := Lib.hid (decide_eq_true hEQ).symm
    have hlt2 : ¬(i : Int) < (L.length : Int) := by omega
    clear hEQ
    go_wp2_with fail
    go_ret
    exact ⟨ret_bool HT.out, HB.out⟩
 ·have hln : ((L.length : Int) != (M.length : Int)) = true := by simpa using fun e => hlen (by omega)
  have HF : Hid (false = decide (L = M)) := Lib.hid (decide_eq_false fun e => hlen (by rw [e])).symm
  clear hlen
  go_wp2_with fail
  go_ret
  exact ⟨ret_bool HF.out, Below.refl _ _⟩
end Go.Proofs.YtlbglinpgjlbkaaGreatDoor
