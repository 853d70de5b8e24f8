import Derived.Test.YtnjpceocnldlfaaGreatWkRfA
import Derived.Deep.AppendLies
import Derived.Deep.RegionLaw
import Derived.Test.YtnjpceocnldlfaaGreatWkPl
import Derived.Deep.CutBlock
import Derived.Test.YtnjpceocnldlfaaGreatWkBa
import Derived.Deep.RegionHeld3
/- The reference's periodic sets: Same, ends. -/
namespace Go.Proofs.YtnjpceocnldlfaaGreat
open Go.RowKit Wk

end Go.Proofs.YtnjpceocnldlfaaGreat
namespace Go.Proofs.YtnjpceocnldlfaaGreat
open Go.RowKit Wk

end Go.Proofs.YtnjpceocnldlfaaGreat
namespace Go.Proofs.YtnjpceocnldlfaaGreat
open Go.RowKit Wk

def Sep (a b : Value) : Prop := ∀ k, a.ownBlock = some k → b.ownBlock = some k → False
theorem Sep.symm {a b : Value} (h : Sep a b) : Sep b a := fun k h1 h2 => h k h2 h1
theorem Sep.nil (v : Value) : Sep (.slice none 0 0) v := fun k h => by simp [Value.ownBlock] at h

end Go.Proofs.YtnjpceocnldlfaaGreat
namespace Go.Proofs.YtnjpceocnldlfaaGreat
open Go.RowKit Wk

end Go.Proofs.YtnjpceocnldlfaaGreat
namespace Go.Proofs.YtnjpceocnldlfaaGreat
open Go.RowKit Wk

end Go.Proofs.YtnjpceocnldlfaaGreat
namespace Go.Proofs.YtnjpceocnldlfaaGreat
open Go.RowKit Wk

end Go.Proofs.YtnjpceocnldlfaaGreat
namespace Go.Proofs.YtnjpceocnldlfaaGreat
open Go.RowKit Wk

end Go.Proofs.YtnjpceocnldlfaaGreat
namespace Go.Proofs.YtnjpceocnldlfaaGreat
open Go.RowKit Wk

end Go.Proofs.YtnjpceocnldlfaaGreat
