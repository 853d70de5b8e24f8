import Derived.Test.YtmfdnbfjdhlonaaGreatDoorWkBg
import Derived.Test.YtmfdnbfjdhlonaaGreatDoorWkBh
import Derived.Test.YtmfdnbfjdhlonaaGreatDoorWkBi
/- runs.Of. -/
namespace Go.Proofs.YtmfdnbfjdhlonaaGreatDoor
open Go.RowKit Wk

def allV (l : List Sp) : Bool := l.all ivB
theorem allV_iff (l : List Sp) : allV l = true ↔ ∀ i, i < l.length → ivB (l.getD i (0, 0)) = true := by
 unfold allV
 rw [List.all_eq_true]
 constructor
 ·intro h i hi
  exact h _ (idx_mem hi)
 ·intro h x hx
  obtain ⟨i, hi, rfl⟩ := mem_idx hx
  exact h i hi
def NotIv (g : Nat) : Prop := ∀ (x y : Int) (W : World), Calls Tryz.prog g #[.agg #[.int .i64 x, .int .i64 y]] W fun e w' => e = .returned (.bool (!ivB (x, y))) ∧ Below W.heap.size W w'
theorem notiv_per : NotIv 71 := by
 intro x y W
 have H := Lib.hid (fun W => ivalid_any x y W)
 go_enter Tryz.func71, Tryz.ntmps71
 go_wp2_with fail
 refine (H.out _).mono ?_
 rintro e w1 ⟨rfl, hb1⟩
 go_wp2
 go_ret
 exact ⟨rfl, keepBelow ((Below.refl _ W).alloc (Nat.le_refl _) _) hb1⟩
set_option maxHeartbeats 1000000 in
theorem idxV_per (v : Value) (L : List Sp) (w : World) (h : RdS w v L) :
  Calls Tryz.prog 43 #[v, .func (.func 71) #[] #[]] w fun e w' => (∃ r : Int, e = .returned (.int .i64 r) ∧ (decide (0 ≤ r) = !allV L)) ∧ Below w.heap.size w w' := by
 have H := Lib.hid (fun x y W => notiv_per x y W)
 obtain ⟨a, c, rfl, hl, hc⟩ := h
 have HC := Lib.hid hc
 clear hc
 go_enter Tryz.func43, Tryz.ntmps43
 go_wp2_with fail
 go_loopw [8] (fun u wr => ∃ k : Nat, u = .int .i64 k ∧ k ≤ L.length ∧ Hid (∀ i, i < k → ivB (L.getD i (0, 0)) = true) ∧ Below w.heap.size w wr) (fun u _ => L.length - (intOf u).toNat)
 case atStart => exact ⟨0, rfl, Nat.zero_le _, fun i hi => by omega, Below.refl _ _⟩
 case round =>
  obtain ⟨k, rfl, hk, HZ, hB⟩ := hrel
  by_cases hlt : k < L.length
  ·obtain ⟨b, o, x, y, rfl, hbw, HXY, d1, d2⟩ := rd_at HC.out hB hlt
   go_wp2_with fail
   refine (H.out x y _).mono ?_
   rintro e w1 ⟨rfl, hb1⟩
   have hB1 := keepBelow hB hb1
   cases hlx : ivB (x, y) with
   | true =>
    have HL := Lib.hid hlx
    clear hlx
    go_wp2
    go_roundw
    case rel =>
     refine ⟨k + 1, by go_num, by omega, fun i hi => ?_, hB1⟩
     rcases Nat.lt_succ_iff_lt_or_eq.1 hi with h | rfl
     ·exact HZ.out i h
     ·rw [HXY.out]; exact HL.out
    case measure => simp [intOf]; omega
   | false =>
    have HL := Lib.hid hlx
    clear hlx
    have hA : allV L = false := by
     cases hA : allV L with
     | false => rfl
     | true => have := (allV_iff L).1 hA k hlt; rw [HXY.out, HL.out] at this; cases this
    go_wp2
    go_ret
    exact ⟨⟨k, rfl, by rw [hA]; simp⟩, hB1⟩
  ·have hA : allV L = true := (allV_iff L).2 fun i hi => HZ.out i (by omega)
   go_wp2
   go_ret
   exact ⟨⟨-1, rfl, by rw [hA]; simp⟩, hB⟩
theorem conV_per (v : Value) (L : List Sp) (w : World) (h : RdS w v L) :
  Calls Tryz.prog 16 #[v, .func (.func 71) #[] #[]] w fun e w' => e = .returned (.bool (!allV L)) ∧ Below w.heap.size w w' := by
 have H := Lib.hid (fun W h => idxV_per v L W h)
 have HD := Lib.hid h
 obtain ⟨a, c, rfl, _⟩ := h
 go_enter Tryz.func16, Tryz.ntmps16
 go_wp2_with fail
 refine (H.out _ HD.out).mono ?_
 rintro e w1 ⟨⟨r, rfl, hr⟩, hb1⟩
 have HRR := Lib.hid hr
 clear hr
 go_wp2
 go_ret
 exact ⟨ret_bool HRR.out, hb1⟩
end Go.Proofs.YtmfdnbfjdhlonaaGreatDoor
