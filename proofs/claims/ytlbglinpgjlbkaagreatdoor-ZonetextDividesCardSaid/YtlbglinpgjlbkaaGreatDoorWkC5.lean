import Derived.Test.YtlbglinpgjlbkaaGreatDoorWkC4
/- Zone texts: the reference's Check and Valid. Printed by gen_c5.py. -/
namespace Go.Proofs.YtlbglinpgjlbkaaGreatDoor
open Go.RowKit Wk

end Go.Proofs.YtlbglinpgjlbkaaGreatDoor
