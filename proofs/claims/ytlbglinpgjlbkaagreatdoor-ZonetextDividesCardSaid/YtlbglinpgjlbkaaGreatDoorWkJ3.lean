import Derived.Test.YtlbglinpgjlbkaaGreatDoorWkJ2
/- Zone texts: the line of a line of a zone. Printed by gen_j3.py. -/
namespace Go.Proofs.YtlbglinpgjlbkaaGreatDoor
open Go.RowKit Wk

end Go.Proofs.YtlbglinpgjlbkaaGreatDoor
