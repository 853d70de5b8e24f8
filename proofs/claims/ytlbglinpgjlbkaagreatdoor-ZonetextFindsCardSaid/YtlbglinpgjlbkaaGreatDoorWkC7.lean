import Derived.Test.YtlbglinpgjlbkaaGreatDoorWkC6
/- Zone texts: the reference's dayed and On. Printed by gen_c7.py. -/
namespace Go.Proofs.YtlbglinpgjlbkaaGreatDoor
open Go.RowKit Wk Go.Maps

end Go.Proofs.YtlbglinpgjlbkaaGreatDoor
