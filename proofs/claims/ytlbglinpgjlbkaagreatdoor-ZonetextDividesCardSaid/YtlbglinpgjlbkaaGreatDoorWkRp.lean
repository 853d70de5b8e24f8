import Derived.Test.YtlbglinpgjlbkaaGreatDoorWkQd
import Derived.OrdersHeld
/- A region that draws its order: its first operations yield the same in every order and in every world that holds what is held; all the rest waits for them. -/
namespace Go.Proofs.YtlbglinpgjlbkaaGreatDoor
open Go.RowKit

section
variable {P : Program} {md : Region.Mode} {ops pre : Array Oper} {C : World → Prop} {Q : Exit → Act → World → Prop} {t s r : Nat}

theorem getD_some {L : Array Bool} {k : Nat} {b c : Bool} (h : L[k]? = some b) : L.getD k c = b := by rw [Array.getD_eq_getD_getElem?, h]; rfl
end
end Go.Proofs.YtlbglinpgjlbkaaGreatDoor
