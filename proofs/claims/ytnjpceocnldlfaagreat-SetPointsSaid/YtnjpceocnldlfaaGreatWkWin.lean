import Derived.Test.YtnjpceocnldlfaaGreatWkTn
import Derived.Test.YtnjpceocnldlfaaGreatWkPl
/- timeset: Window, Next, Change; work: Open, Close, Parts. -/
namespace Go.Proofs.YtnjpceocnldlfaaGreat
open Go.RowKit Wk

end Go.Proofs.YtnjpceocnldlfaaGreat
