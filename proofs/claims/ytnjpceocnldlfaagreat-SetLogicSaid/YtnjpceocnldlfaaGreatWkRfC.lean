import Derived.Test.YtnjpceocnldlfaaGreatWkRfB
import Derived.Test.YtnjpceocnldlfaaGreatWkPl
import Derived.Test.YtnjpceocnldlfaaGreatWkForm
import Derived.Test.YtnjpceocnldlfaaGreatWkVal
/- The reference's Pure and Form. -/
namespace Go.Proofs.YtnjpceocnldlfaaGreat
open Go.RowKit Wk

end Go.Proofs.YtnjpceocnldlfaaGreat

namespace Go.Proofs.YtnjpceocnldlfaaGreat
open Go.RowKit Wk

end Go.Proofs.YtnjpceocnldlfaaGreat
namespace Go.Proofs.YtnjpceocnldlfaaGreat
open Go.RowKit Wk

end Go.Proofs.YtnjpceocnldlfaaGreat
