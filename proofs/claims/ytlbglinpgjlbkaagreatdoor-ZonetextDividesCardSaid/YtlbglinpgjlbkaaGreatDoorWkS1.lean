import Derived.Test.YtlbglinpgjlbkaaGreatDoorWkQn
/- Zone texts: the reference's SameZone and Same, of sources that read alike. Printed by gen_s1.py. -/
namespace Go.Proofs.YtlbglinpgjlbkaaGreatDoor
open Go.RowKit Wk

end Go.Proofs.YtlbglinpgjlbkaaGreatDoor
