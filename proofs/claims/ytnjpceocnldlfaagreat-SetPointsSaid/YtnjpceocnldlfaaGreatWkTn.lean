import Derived.Test.YtnjpceocnldlfaaGreatWkVal
import Derived.Test.YtnjpceocnldlfaaGreatWkBd
import Derived.Test.YtnjpceocnldlfaaGreatWkPl
/- work: line, amount, rank, nth. -/
namespace Go.Proofs.YtnjpceocnldlfaaGreat
open Go.RowKit Wk

end Go.Proofs.YtnjpceocnldlfaaGreat
/- work.count. -/
namespace Go.Proofs.YtnjpceocnldlfaaGreat
open Go.RowKit Wk

end Go.Proofs.YtnjpceocnldlfaaGreat
/- work.add. -/
namespace Go.Proofs.YtnjpceocnldlfaaGreat
open Go.RowKit Wk

end Go.Proofs.YtnjpceocnldlfaaGreat
/- work: Measure, Add, Deadline. -/
namespace Go.Proofs.YtnjpceocnldlfaaGreat
open Go.RowKit Wk

end Go.Proofs.YtnjpceocnldlfaaGreat
