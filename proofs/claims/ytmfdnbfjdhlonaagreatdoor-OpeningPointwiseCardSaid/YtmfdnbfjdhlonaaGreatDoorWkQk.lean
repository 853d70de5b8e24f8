import Derived.Test.YtmfdnbfjdhlonaaGreatDoorWkOqD
import Derived.Test.YtmfdnbfjdhlonaaGreatDoorWkC13
import Derived.Test.YtmfdnbfjdhlonaaGreatDoorWkRfX
/- The reference's Of (periodic). -/
namespace Go.Proofs.YtmfdnbfjdhlonaaGreatDoor
open Go.RowKit Wk

end Go.Proofs.YtmfdnbfjdhlonaaGreatDoor
