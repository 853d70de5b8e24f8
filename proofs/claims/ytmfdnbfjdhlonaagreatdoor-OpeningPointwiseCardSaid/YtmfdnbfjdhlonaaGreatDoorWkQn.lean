import Derived.Test.YtmfdnbfjdhlonaaGreatDoorWkQm
import Derived.Test.YtmfdnbfjdhlonaaGreatDoorWkQl
import Derived.Test.YtmfdnbfjdhlonaaGreatDoorWkRfC
/- few hours; the law OpeningWeeks. -/
namespace Go.Proofs.YtmfdnbfjdhlonaaGreatDoor
open Go.RowKit Wk

set_option maxRecDepth 100000 in
set_option maxHeartbeats 1000000 in
theorem few1_any (a : Option Addr) (n c : Nat) (w : World) :
  Calls Tryz.prog 34 #[.slice a n c] w fun e w' => e = .returned (.bool (decide ((30 : Int) < n))) ∧ w' = w := by
 go_enter Tryz.func34, Tryz.ntmps34
 go_wp2_with fail
 go_ret
 exact ⟨rfl, rfl⟩
def few30 (H : List (List Sp)) : Bool := H.all fun l => decide (l.length ≤ 30)
theorem few30_iff {H : List (List Sp)} (hH : H.length = 7) : few30 H = true ↔ ∀ k, k < 7 → (H.getD k []).length ≤ 30 := by
 unfold few30
 rw [List.all_eq_true]
 constructor
 ·intro h k hk
  have := h (H.getD k []) (by rw [List.getD_eq_getElem?_getD, List.getElem?_eq_getElem (by omega)]; exact List.getElem_mem _)
  simpa using this
 ·intro h x hx
  obtain ⟨i, hi, rfl⟩ := List.getElem_of_mem hx
  have := h i (by omega)
  rw [List.getD_eq_getElem?_getD, List.getElem?_eq_getElem hi] at this
  simpa using this
set_option maxRecDepth 100000 in
set_option maxHeartbeats 1000000 in
theorem idxH_any (b : Nat) (H : List (List Sp)) (w : World) (hH : H.length = 7) (h : BoxR w b H) :
  Calls Tryz.prog 69 #[.slice (some ⟨b, 0, none⟩) 7 7, .func (.func 34) #[] #[]] w fun e w' => (∃ r : Int, e = .returned (.int .i64 r) ∧ decide (0 ≤ r) = !few30 H) ∧ w' = w := by
 have HF := Lib.hid (fun a n c W => few1_any a n c W)
 have HB := Lib.hid h
 have HHL := Lib.hid hH
 clear h hH
 go_enter Tryz.func69, Tryz.ntmps69
 go_wp2_with fail
 go_loopw [5, 8] (fun _ u wr => ∃ k : Nat, u = .int .i64 k ∧ k ≤ 7 ∧ Hid (∀ j, j < k → (H.getD j []).length ≤ 30) ∧ wr = w) (fun _ u _ => 7 - (intOf u).toNat)
 case atStart => exact ⟨0, rfl, by omega, Lib.hid (fun j hj => absurd hj (by omega)), rfl⟩
 case round =>
  obtain ⟨k, rfl, hk, HZ, hw⟩ := hrel
  subst hw
  by_cases hlt : k < 7
  ·have hlt' : (k : Int) < 7 := by omega
   obtain ⟨a, c, hc, -⟩ := HB.out k hlt
   by_cases h30 : 30 < (H.getD k []).length
   ·have hd : decide ((30 : Int) < (H.getD k []).length) = true := decide_eq_true (by omega)
    have HFk := Lib.hid (HF.out a (H.getD k []).length c wr)
    rw [hd] at HFk
    have HN : Hid (few30 H = false) := Lib.hid (by
     cases e : few30 H with
     | false => rfl
     | true => have := (few30_iff HHL.out).1 e k hlt; omega)
    clear hd h30
    go_wp2_with (refine HFk.out.mono ?_; rintro e w1 ⟨rfl, hw⟩; rw [hw]; clear hw)
    go_ret
    exact ⟨⟨k, rfl, by rw [HN.out]; simp⟩, rfl⟩
   ·have hd : decide ((30 : Int) < (H.getD k []).length) = false := decide_eq_false (by omega)
    have HFk := Lib.hid (HF.out a (H.getD k []).length c wr)
    rw [hd] at HFk
    have HK := Lib.hid h30
    clear hd h30
    go_wp2_with (refine HFk.out.mono ?_; rintro e w1 ⟨rfl, hw⟩; rw [hw]; clear hw)
    go_roundw
    case rel =>
     refine ⟨k + 1, by go_num, by omega, Lib.hid fun j hj => ?_, trivial⟩
     rcases Nat.lt_succ_iff_lt_or_eq.1 hj with h | rfl
     ·exact HZ.out j h
     ·have := HK.out; omega
    case measure => simp [intOf]; omega
  ·have hk7 : k = 7 := by omega
   have HN : Hid (few30 H = true) := Lib.hid ((few30_iff HHL.out).2 fun j hj => HZ.out j (by omega))
   subst hk7
   go_wp2_with fail
   go_ret
   exact ⟨⟨-1, rfl, by rw [HN.out]; simp⟩, rfl⟩
set_option maxRecDepth 100000 in
set_option maxHeartbeats 1000000 in
theorem fewH_any (v0 v1 v2 v3 v4 v5 v6 : Value) (H : List (List Sp)) (w : World) (h : RdH w [v0, v1, v2, v3, v4, v5, v6] H) :
  Calls Tryz.prog 10 #[.agg #[v0, v1, v2, v3, v4, v5, v6]] w fun e w' => e = .returned (.bool (few30 H)) ∧ Below w.heap.size w w' := by
 obtain ⟨W, hWe⟩ : ∃ W, w.alloc (.cells #[v0, v1, v2, v3, v4, v5, v6] 25) = W := ⟨_, rfl⟩
 have hB0 : Below w.heap.size w W := by rw [← hWe]; exact (Below.refl _ w).alloc (Nat.le_refl _) _
 have c0 : W.cell? ⟨w.heap.size, 0, none⟩ = some v0 := by rw [← hWe]; simp [go_sem]
 have c1 : W.cell? ⟨w.heap.size, 1, none⟩ = some v1 := by rw [← hWe]; simp [go_sem]
 have c2 : W.cell? ⟨w.heap.size, 2, none⟩ = some v2 := by rw [← hWe]; simp [go_sem]
 have c3 : W.cell? ⟨w.heap.size, 3, none⟩ = some v3 := by rw [← hWe]; simp [go_sem]
 have c4 : W.cell? ⟨w.heap.size, 4, none⟩ = some v4 := by rw [← hWe]; simp [go_sem]
 have c5 : W.cell? ⟨w.heap.size, 5, none⟩ = some v5 := by rw [← hWe]; simp [go_sem]
 have c6 : W.cell? ⟨w.heap.size, 6, none⟩ = some v6 := by rw [← hWe]; simp [go_sem]
 have HBR := Lib.hid ((h.below hB0).box c0 c1 c2 c3 c4 c5 c6)
 have HIX := Lib.hid (idxH_any w.heap.size H W h.2.1 HBR.out)
 obtain ⟨q, hq⟩ : ∃ q, few30 H = q := ⟨_, rfl⟩
 rw [hq] at HIX ⊢
 have HC : Hid (Calls Tryz.prog 33 #[.slice (some ⟨w.heap.size, 0, none⟩) 7 7, .func (.func 34) #[] #[]] W fun e w' => e = .returned (.bool (!q)) ∧ w' = W) := by
  refine Lib.hid ?_
  go_enter Tryz.func33, Tryz.ntmps33
  go_wp2_with fail
  refine HIX.out.mono ?_
  rintro e w1 ⟨⟨r, rfl, hr⟩, hw⟩
  have HR := Lib.hid hr
  clear hr
  go_wp2_with fail
  go_ret
  exact ⟨ret_bool HR.out, by first | exact hw | rfl⟩
 have HE := Lib.hid hWe
 clear hWe c0 c1 c2 c3 c4 c5 c6 HIX HBR
 go_enter Tryz.func10, Tryz.ntmps10
 go_wp2_with fail
 rw [HE.out]
 go_wp2_with fail
 refine HC.out.mono ?_
 rintro e w1 ⟨rfl, hw⟩
 rw [hw]
 go_wp2_with fail
 go_ret
 exact ⟨ret_bool (by simp), hB0⟩
end Go.Proofs.YtmfdnbfjdhlonaaGreatDoor
