import Derived.Test.YtmfdnbfjdhlonaaGreatDoorWkBa
import Derived.Test.YtmfdnbfjdhlonaaGreatDoorWkPn
import Derived.Test.YtmfdnbfjdhlonaaGreatDoorWkBd
/- integer: size, signed, Mul, Gcd, Lcm. -/
namespace Go.Proofs.YtmfdnbfjdhlonaaGreatDoor
open Go.RowKit Wk

end Go.Proofs.YtmfdnbfjdhlonaaGreatDoor
