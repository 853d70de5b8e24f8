import Derived.Test.YtnjpceocnldlfaaGreatWkC13
import Derived.Test.YtnjpceocnldlfaaGreatWkPu
import Derived.Test.YtnjpceocnldlfaaGreatWkRof
import Derived.Test.YtnjpceocnldlfaaGreatWkBf
/- The reference's Not and Move of periodic sets. -/
namespace Go.Proofs.YtnjpceocnldlfaaGreat
open Go.RowKit Wk

end Go.Proofs.YtnjpceocnldlfaaGreat
/- The reference's Move of a periodic set. -/
namespace Go.Proofs.YtnjpceocnldlfaaGreat
open Go.RowKit Wk

/-- a periodic set that can be read, and an error -/
def PqPost (r : Per × Int) (w : World) (e : Ending) (w' : World) : Prop := ∃ v', e = .returned (.tuple #[.agg #[.int .i64 r.1.1, v'], .int .i64 r.2]) ∧ RdS w' v' r.1.2 ∧ Below w.heap.size w w'

end Go.Proofs.YtnjpceocnldlfaaGreat
