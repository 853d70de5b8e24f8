import Derived.Test.YtlbglinpgjlbkaaGreatDoorWkJ1
import Derived.Test.YtlbglinpgjlbkaaGreatDoorWkQj
import Derived.Deep.CutBlock
/- Zone texts: the line of a rule. Printed by gen_j2.py. -/
namespace Go.Proofs.YtlbglinpgjlbkaaGreatDoor
open Go.RowKit Wk

end Go.Proofs.YtlbglinpgjlbkaaGreatDoor
