import Derived.Test.YtnjpceocnldlfaaGreatWkRfE
/- The reference's Window of a set, Parts. -/
namespace Go.Proofs.YtnjpceocnldlfaaGreat
open Go.RowKit Wk

end Go.Proofs.YtnjpceocnldlfaaGreat
