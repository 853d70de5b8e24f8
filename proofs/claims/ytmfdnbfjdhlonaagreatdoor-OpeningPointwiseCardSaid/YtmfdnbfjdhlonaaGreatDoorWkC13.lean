import Derived.Test.YtmfdnbfjdhlonaaGreatDoorWkBth
import Derived.Test.YtmfdnbfjdhlonaaGreatDoorWkRfB
/- The reference's Combine of periodic sets. -/
namespace Go.Proofs.YtmfdnbfjdhlonaaGreatDoor
open Go.RowKit Wk

end Go.Proofs.YtmfdnbfjdhlonaaGreatDoor
