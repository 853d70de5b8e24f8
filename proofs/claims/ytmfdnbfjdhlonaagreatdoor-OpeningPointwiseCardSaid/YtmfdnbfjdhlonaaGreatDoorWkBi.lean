import Derived.Test.YtmfdnbfjdhlonaaGreatDoorWkPn
import Derived.Test.YtmfdnbfjdhlonaaGreatDoorWkBa
import Derived.Test.YtmfdnbfjdhlonaaGreatDoorWkRfA
/- Going through two lists in runs: the ends, the rules, done. -/
namespace Go.Proofs.YtmfdnbfjdhlonaaGreatDoor
open Go.RowKit Wk

end Go.Proofs.YtmfdnbfjdhlonaaGreatDoor
namespace Go.Proofs.YtmfdnbfjdhlonaaGreatDoor
open Go.RowKit Wk

end Go.Proofs.YtmfdnbfjdhlonaaGreatDoor
