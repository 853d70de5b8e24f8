import Derived.Test.YtnjpceocnldlfaaGreatWkLq
import Derived.Test.YtnjpceocnldlfaaGreatWkWid
/- The law SetForms. -/
namespace Go.Proofs.YtnjpceocnldlfaaGreat
open Go.RowKit Wk

end Go.Proofs.YtnjpceocnldlfaaGreat
