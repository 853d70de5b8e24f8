import Derived.Test.YtlbglinpgjlbkaaGreatDoorWkQn
import Derived.OrdersHeld
/- Zone texts: slices.Equal at rules, links, lines, texts. Printed by gen_eq.py. No conditions. -/
namespace Go.Proofs.YtlbglinpgjlbkaaGreatDoor
open Go.RowKit Wk

theorem bsT (a : ByteArray) : a.toList = bsO a := by rw [Lib.toList_data]
set_option maxRecDepth 100000 in
set_option maxHeartbeats 4000000 in
theorem eq_str (v1 v2 : Value) (L M : List Bs) (w : World) (h1 : RdSt w v1 L) (h2 : RdSt w v2 M) :
  Calls Tryz.prog 37 #[v1, v2] w fun e w' => e = .returned (.bool (decide (L = M))) ∧ Below w.heap.size w w' := by
 obtain ⟨a1, c1, rfl, hl1, hc1⟩ := h1
 obtain ⟨a2, c2, rfl, hl2, hc2⟩ := h2
 have HC1 := Lib.hid hc1
 have HC2 := Lib.hid hc2
 clear hc1 hc2
 go_enter Tryz.func37, Tryz.ntmps37
 by_cases hlen : L.length = M.length
 ·have hln : ((L.length : Int) != (M.length : Int)) = false := by rw [hlen]; simp
  rw [← hlen] at HC2 hl2 ⊢
  have HLE := Lib.hid hlen
  clear hln hlen
  go_wp2_with fail
  go_loopw [5, 13] (fun _ u wr => ∃ i : Nat, u = .int .i64 i ∧ i ≤ L.length ∧ Hid (∀ j, j < i → L.getD j [] = M.getD j []) ∧ Hid (Below w.heap.size w wr)) (fun _ u _ => L.length - (intOf u).toNat)
  case atStart => exact ⟨0, rfl, Nat.zero_le _, Lib.hid fun j hj => by omega, Below.refl _ _⟩
  case round =>
   obtain ⟨i, rfl, hi, HE, HB⟩ := hrel
   have HBD : Hid (Below w.heap.size w wr.drew) := Lib.hid HB.out.drew
   by_cases hlt : i < L.length
   ·have hlt2 : (i : Int) < (L.length : Int) := by omega
    have hi0 : (0 : Int) ≤ (i : Int) := Int.natCast_nonneg _
    obtain ⟨b, o, rfl, hd1⟩ := HC1.out i hlt
    obtain ⟨b', o', rfl, hd2⟩ := HC2.out i hlt
    obtain ⟨x, hx⟩ : ∃ x, L.getD i [] = x := ⟨_, rfl⟩
    obtain ⟨y, hy⟩ : ∃ y, M.getD i [] = y := ⟨_, rfl⟩
    obtain ⟨q, hq⟩ : ∃ q, (!decide (x = y)) = q := ⟨_, rfl⟩
    have HQ := Lib.hid hq
    have HN : Hid (q = false → Hid (∀ j, j < i + 1 → L.getD j [] = M.getD j [])) := Lib.hid fun h => Lib.hid fun j hj => by
     rcases Nat.lt_succ_iff_lt_or_eq.1 hj with g | rfl
     ·exact HE.out j g
     ·rw [hx, hy]
      rw [h] at hq
      simpa using hq
    have HX : Hid (q = true → false = decide (L = M)) := Lib.hid fun h => by
     refine (decide_eq_false fun e => ?_).symm
     rw [h] at hq
     rw [← hx, ← hy, e] at hq
     simp at hq
    rw [hx] at hd1
    rw [hy] at hd2
    clear hx hy hq HE
    obtain ⟨XNM, rfl⟩ := bs_of x
    obtain ⟨YNM, rfl⟩ := bs_of y
    have d0 : wr.cell? ⟨b, o + i, none⟩ = some (.string XNM) := by have := keepCell HB.out (hd1 0 _ (by decide) rfl); rw [Nat.mul_one] at this; exact this
    have e0 : wr.cell? ⟨b', o' + i, none⟩ = some (.string YNM) := by have := keepCell HB.out (hd2 0 _ (by decide) rfl); rw [Nat.mul_one] at this; exact this
    clear hd1 hd2
    go_upto_region 6 with fail
    refine wp_region_held_drew (S := fun w' => w'.cell? ⟨b, o + i, none⟩ = some (.string XNM) ∧ w'.cell? ⟨b', o' + i, none⟩ = some (.string YNM)) (by kernel_rfl) ?_ (fun hHeld => ?_)
    ·exact ⟨d0, e0⟩
    refine wpAnyH_take (i := 0) (v := ?v29) rfl (by kernel_rfl) (by kernel_rfl) (by kernel_rfl) (fun _ _ _ h => h) (Or.inl ⟨by rfl, ?hy29⟩) (by assumption) ?rest29
    case hy29 =>
     intro w hSw
     try dsimp only at hSw
     go_simp
     try with_reducible rfl
    case rest29 =>
    refine wpAnyH_take (i := 1) (v := ?v30) rfl (by kernel_rfl) (by kernel_rfl) (by kernel_rfl) (fun _ _ _ h => h) (Or.inl ⟨by rfl, ?hy30⟩) (by assumption) ?rest30
    case hy30 =>
     intro w hSw
     try dsimp only at hSw
     go_simp
     try with_reducible rfl
    case rest30 =>
    refine wpAnyH_take (i := 2) (v := ?v31) rfl (by kernel_rfl) (by kernel_rfl) (by kernel_rfl) (fun _ _ _ h => h) (Or.inl ⟨by rfl, ?hy31⟩) (by assumption) ?rest31
    case hy31 =>
     intro w hSw
     try dsimp only at hSw
     go_simp
     try with_reducible rfl
    case rest31 =>
    refine wpAnyH_take (i := 3) (v := ?v32) rfl (by kernel_rfl) (by kernel_rfl) (by kernel_rfl) (fun _ _ _ h => h) (Or.inl ⟨by rfl, ?hy32⟩) (by assumption) ?rest32
    case hy32 =>
     intro w hSw
     try dsimp only at hSw
     go_simp
     try with_reducible rfl
    case rest32 =>
    refine wpAnyH_take (i := 4) (v := ?v33) rfl (by kernel_rfl) (by kernel_rfl) (by kernel_rfl) (fun _ _ _ h => h) (Or.inl ⟨by rfl, ?hy33⟩) (by assumption) ?rest33
    case hy33 =>
     intro w hSw
     try dsimp only at hSw
     go_simp
     try with_reducible rfl
    case rest33 =>
    refine wpAnyH_take (i := 5) (v := ?v34) rfl (by kernel_rfl) (by kernel_rfl) (by kernel_rfl) (fun _ _ _ h => h) (Or.inl ⟨by rfl, ?hy34⟩) (by assumption) ?rest34
    case hy34 =>
     intro w hSw
     try dsimp only at hSw
     go_simp
     try with_reducible rfl
    case rest34 =>
    refine wpAnyH_take (i := 6) (v := ?v35) rfl (by kernel_rfl) (by kernel_rfl) (by kernel_rfl) (fun _ _ _ h => h) (Or.inl ⟨by rfl, ?hy35⟩) (by assumption) ?rest35
    case hy35 =>
     intro w hSw
     try dsimp only at hSw
     go_simp
     try with_reducible rfl
    case rest35 =>
    refine wpAnyH_take (i := 7) (v := ?v36) rfl (by kernel_rfl) (by kernel_rfl) (by kernel_rfl) (fun _ _ _ h => h) (Or.inl ⟨by rfl, ?hy36⟩) (by assumption) ?rest36
    case hy36 =>
     intro w hSw
     try dsimp only at hSw
     go_simp
     try with_reducible rfl
    case rest36 =>
    refine wpAnyH_take (i := 8) (v := .bool q) rfl (by kernel_rfl) (by kernel_rfl) (by kernel_rfl) (fun _ _ _ h => h) (Or.inl ⟨by rfl, ?hy28⟩) (by assumption) ?rest28
    case hy28 =>
     intro w hSw
     clear hSw
     go_simp
     rw [← HQ.out]
     rw [bsT, bsT]
     by_cases h : bsO XNM = bsO YNM
     ·simp only [h, decide_true, Bool.not_true, Bool.not_false, BEq.rfl]
     ·simp only [h, decide_false, Bool.not_true, Bool.not_false]
      exact beq_eq_false_iff_ne.2 h
    case rest28 =>
    refine wpAnyH_done (by kernel_rfl) ?_ _
    go_simp
    cases q with
    | false =>
     go_wp2_with fail
     go_roundw
     case rel => exact ⟨i + 1, by go_num, by omega, HN.out (by trivial), HBD⟩
     case measure => simp [intOf]; omega
    | true =>
     go_wp2_with fail
     go_ret
     exact ⟨ret_bool (HX.out (by trivial)), HBD.out⟩
   ·have hEQ : L = M := List.ext_getElem HLE.out fun j g1 g2 => by
     have := HE.out j (by omega)
     rw [List.getD_eq_getElem?_getD, List.getD_eq_getElem?_getD, List.getElem?_eq_getElem g1, List.getElem?_eq_getElem g2] at this
     exact this
    have HT : Hid (true = decide (L = M)) := Lib.hid (decide_eq_true hEQ).symm
    have hlt2 : ¬(i : Int) < (L.length : Int) := by omega
    clear hEQ
    go_wp2_with fail
    go_ret
    exact ⟨ret_bool HT.out, HB.out⟩
 ·have hln : ((L.length : Int) != (M.length : Int)) = true := by simpa using fun e => hlen (by omega)
  have HF : Hid (false = decide (L = M)) := Lib.hid (decide_eq_false fun e => hlen (by rw [e])).symm
  clear hlen
  go_wp2_with fail
  go_ret
  exact ⟨ret_bool HF.out, Below.refl _ _⟩
end Go.Proofs.YtlbglinpgjlbkaaGreatDoor
