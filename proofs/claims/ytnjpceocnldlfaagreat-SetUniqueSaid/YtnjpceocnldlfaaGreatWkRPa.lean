import Derived.Test.YtnjpceocnldlfaaGreatWkWnd
import Derived.Test.YtnjpceocnldlfaaGreatWkRfD
/- The reference's Valid of an interval and its Parts. -/
namespace Go.Proofs.YtnjpceocnldlfaaGreat
open Go.RowKit Wk

end Go.Proofs.YtnjpceocnldlfaaGreat
