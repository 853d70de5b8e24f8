import Derived.Test.YtmfdnbfjdhlonaaGreatDoorWkPn
import Derived.Test.YtmfdnbfjdhlonaaGreatDoorWkBh
import Derived.Test.YtmfdnbfjdhlonaaGreatDoorWkPl
/- Not and Move, in plain numbers. -/
namespace Go.Proofs.YtmfdnbfjdhlonaaGreatDoor
namespace Wk
end Wk
end Go.Proofs.YtmfdnbfjdhlonaaGreatDoor
namespace Go.Proofs.YtmfdnbfjdhlonaaGreatDoor
namespace Wk
end Wk
end Go.Proofs.YtmfdnbfjdhlonaaGreatDoor
namespace Go.Proofs.YtmfdnbfjdhlonaaGreatDoor
namespace Wk
end Wk
end Go.Proofs.YtmfdnbfjdhlonaaGreatDoor
