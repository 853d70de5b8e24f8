import Derived.Test.YtnjpceocnldlfaaGreatWkBth
import Derived.Test.YtnjpceocnldlfaaGreatWkRfB
/- The reference's Combine of periodic sets. -/
namespace Go.Proofs.YtnjpceocnldlfaaGreat
open Go.RowKit Wk

end Go.Proofs.YtnjpceocnldlfaaGreat
