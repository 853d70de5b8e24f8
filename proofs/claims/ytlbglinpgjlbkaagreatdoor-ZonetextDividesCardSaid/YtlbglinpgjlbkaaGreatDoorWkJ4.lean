import Derived.Test.YtlbglinpgjlbkaaGreatDoorWkJ3
import Derived.Test.YtlbglinpgjlbkaaGreatDoorWkQq
import Derived.Test.YtlbglinpgjlbkaaGreatDoorWkQo
/- Zone texts: the program's Text. Printed by gen_j4.py. -/
namespace Go.Proofs.YtlbglinpgjlbkaaGreatDoor
open Go.RowKit Wk

end Go.Proofs.YtlbglinpgjlbkaaGreatDoor
