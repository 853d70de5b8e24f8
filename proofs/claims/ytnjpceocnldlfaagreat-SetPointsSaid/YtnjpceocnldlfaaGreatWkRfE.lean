import Derived.Test.YtnjpceocnldlfaaGreatWkRfD
import Derived.Test.YtnjpceocnldlfaaGreatWkPn
import Derived.Test.YtnjpceocnldlfaaGreatWkWin
/- The reference's Has, Change, Next of a set; Measure, Open, Close. -/
namespace Go.Proofs.YtnjpceocnldlfaaGreat
open Go.RowKit Wk

end Go.Proofs.YtnjpceocnldlfaaGreat
