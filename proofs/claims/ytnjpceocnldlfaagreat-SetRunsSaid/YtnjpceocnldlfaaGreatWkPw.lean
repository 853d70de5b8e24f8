import Derived.Test.YtnjpceocnldlfaaGreatWkPu
/- Two valid sets with the same numbers are the same. -/
namespace Go.Proofs.YtnjpceocnldlfaaGreat
namespace Wk
end Wk
end Go.Proofs.YtnjpceocnldlfaaGreat
