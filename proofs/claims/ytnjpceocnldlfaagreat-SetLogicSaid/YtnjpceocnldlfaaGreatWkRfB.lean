import Derived.Test.YtnjpceocnldlfaaGreatWkRfX
import Derived.Test.YtnjpceocnldlfaaGreatWkBd
import Derived.Test.YtnjpceocnldlfaaGreatWkPq
import Derived.Test.YtnjpceocnldlfaaGreatWkPl
/- The reference: Gcd, Mul, Lcm, Pair. -/
namespace Go.Proofs.YtnjpceocnldlfaaGreat
open Go.RowKit Wk

end Go.Proofs.YtnjpceocnldlfaaGreat
namespace Go.Proofs.YtnjpceocnldlfaaGreat
open Go.RowKit Wk

end Go.Proofs.YtnjpceocnldlfaaGreat
namespace Go.Proofs.YtnjpceocnldlfaaGreat
open Go.RowKit Wk

end Go.Proofs.YtnjpceocnldlfaaGreat
namespace Go.Proofs.YtnjpceocnldlfaaGreat
open Go.RowKit Wk

end Go.Proofs.YtnjpceocnldlfaaGreat
namespace Go.Proofs.YtnjpceocnldlfaaGreat
open Go.RowKit Wk

end Go.Proofs.YtnjpceocnldlfaaGreat
namespace Go.Proofs.YtnjpceocnldlfaaGreat
open Go.RowKit Wk

end Go.Proofs.YtnjpceocnldlfaaGreat
