import Derived.Test.YtmfdnbfjdhlonaaGreatDoorWkBh
import Derived.Test.YtmfdnbfjdhlonaaGreatDoorWkPu
/- periodic.fold. -/
namespace Go.Proofs.YtmfdnbfjdhlonaaGreatDoor
open Go.RowKit Wk

end Go.Proofs.YtmfdnbfjdhlonaaGreatDoor
