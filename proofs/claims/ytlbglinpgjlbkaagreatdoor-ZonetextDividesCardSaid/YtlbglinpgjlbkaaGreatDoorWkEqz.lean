import Derived.Test.YtlbglinpgjlbkaaGreatDoorWkQn
import Derived.OrdersHeld
/- Zone texts: slices.Equal at rules, links, lines, texts. Printed by gen_eq.py. No conditions. -/
namespace Go.Proofs.YtlbglinpgjlbkaaGreatDoor
open Go.RowKit Wk

theorem neq_step {c d : Prop} [Decidable c] [Decidable d] {w : World} {X : Result Next} (h : X = Result.ok (Next.value (Value.bool !decide d)) w) : (if c then X else Result.ok (Next.value (Value.bool true)) w) = Result.ok (Next.value (Value.bool !decide (c ∧ d))) w := by
 by_cases hc : c
 ·rw [if_pos hc, h]
  simp [hc]
 ·rw [if_neg hc]
  simp [hc]
theorem neq_end (w : World) : Result.ok (Next.value (Value.bool false)) w = Result.ok (Next.value (Value.bool !decide True)) w := rfl
theorem bsT (a : ByteArray) : a.toList = bsO a := by rw [Lib.toList_data]
end Go.Proofs.YtlbglinpgjlbkaaGreatDoor
