import Derived.Test.YtnjpceocnldlfaaGreatWkRfA
import Derived.Deep.AppendLies
import Derived.Deep.RegionLaw
import Derived.Test.YtnjpceocnldlfaaGreatWkPl
import Derived.Deep.CutBlock
import Derived.Test.YtnjpceocnldlfaaGreatWkBa
import Derived.Deep.RegionHeld3
/- The reference's periodic sets: Same, ends. -/
namespace Go.Proofs.YtnjpceocnldlfaaGreat
open Go.RowKit Wk

end Go.Proofs.YtnjpceocnldlfaaGreat
/- The reference's combination of two canonical lists. -/
namespace Go.Proofs.YtnjpceocnldlfaaGreat
open Go.RowKit Wk

end Go.Proofs.YtnjpceocnldlfaaGreat
/- The reference's division, rotation and cut. -/
namespace Go.Proofs.YtnjpceocnldlfaaGreat
open Go.RowKit Wk

/-- two lists of the call's own lie apart -/
def Sep (a b : Value) : Prop := ∀ k, a.ownBlock = some k → b.ownBlock = some k → False
theorem Sep.symm {a b : Value} (h : Sep a b) : Sep b a := fun k h1 h2 => h k h2 h1
theorem Sep.nil (v : Value) : Sep (.slice none 0 0) v := fun k h => by simp [Value.ownBlock] at h

end Go.Proofs.YtnjpceocnldlfaaGreat
/- The reference's cut and Least. -/
namespace Go.Proofs.YtnjpceocnldlfaaGreat
open Go.RowKit Wk

end Go.Proofs.YtnjpceocnldlfaaGreat
/- The reference's Least. -/
namespace Go.Proofs.YtnjpceocnldlfaaGreat
open Go.RowKit Wk

end Go.Proofs.YtnjpceocnldlfaaGreat
/- The reference's Valid of a periodic set. -/
namespace Go.Proofs.YtnjpceocnldlfaaGreat
open Go.RowKit Wk

end Go.Proofs.YtnjpceocnldlfaaGreat
/- The reference: Has, Equal, In, Same, Line. -/
namespace Go.Proofs.YtnjpceocnldlfaaGreat
open Go.RowKit Wk

end Go.Proofs.YtnjpceocnldlfaaGreat
/- The reference: Same of runs, Spread. -/
namespace Go.Proofs.YtnjpceocnldlfaaGreat
open Go.RowKit Wk

end Go.Proofs.YtnjpceocnldlfaaGreat
