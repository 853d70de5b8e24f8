import Derived.Test.YtmfdnbfjdhlonaaGreatDoorWkBh
import Derived.Test.YtmfdnbfjdhlonaaGreatDoorWkIlc
import Derived.Test.YtmfdnbfjdhlonaaGreatDoorWkBi
import Derived.Deep.RegionWith
/- periodic.both. -/
namespace Go.Proofs.YtmfdnbfjdhlonaaGreatDoor
open Go.RowKit Wk

end Go.Proofs.YtmfdnbfjdhlonaaGreatDoor
