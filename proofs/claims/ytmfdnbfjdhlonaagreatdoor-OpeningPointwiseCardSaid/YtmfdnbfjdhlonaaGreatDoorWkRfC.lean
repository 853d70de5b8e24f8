import Derived.Test.YtmfdnbfjdhlonaaGreatDoorWkRfB
import Derived.Test.YtmfdnbfjdhlonaaGreatDoorWkPl
import Derived.Test.YtmfdnbfjdhlonaaGreatDoorWkForm
import Derived.Test.YtmfdnbfjdhlonaaGreatDoorWkVal
/- The reference's Pure and Form. -/
namespace Go.Proofs.YtmfdnbfjdhlonaaGreatDoor
open Go.RowKit Wk

end Go.Proofs.YtmfdnbfjdhlonaaGreatDoor

namespace Go.Proofs.YtmfdnbfjdhlonaaGreatDoor
open Go.RowKit Wk

end Go.Proofs.YtmfdnbfjdhlonaaGreatDoor
namespace Go.Proofs.YtmfdnbfjdhlonaaGreatDoor
open Go.RowKit Wk

end Go.Proofs.YtmfdnbfjdhlonaaGreatDoor
