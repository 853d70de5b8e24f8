import Derived.Test.YtlbglinpgjlbkaaGreatDoorWkQd
import Derived.Orders
/- A region walked in pieces: what holds of the frame between two of its operations. -/
namespace Go.Proofs.YtlbglinpgjlbkaaGreatDoor
open Go.RowKit

def atEnd (K : Act → World → Prop) (Q : Exit → Act → World → Prop) : Exit → Act → World → Prop
 | .normal, a, w => K a w
 | e, a, w => Q e a w
theorem upon_atEnd {P : Program} {o : Oper} {a : Act} {next : Act → World → Prop} {K : Act → World → Prop} {Q : Exit → Act → World → Prop} (r : Result Next) :
  o.upon P a next (atEnd K Q) r = o.upon P a next Q r := by
 unfold Oper.upon
 split <;> rfl
end Go.Proofs.YtlbglinpgjlbkaaGreatDoor
