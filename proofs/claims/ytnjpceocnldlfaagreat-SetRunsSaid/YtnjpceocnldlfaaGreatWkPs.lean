import Derived.Test.YtnjpceocnldlfaaGreatWkPr
/- Purely periodic sets: their form, their unions, plain. -/
namespace Go.Proofs.YtnjpceocnldlfaaGreat
namespace Wk
end Wk
end Go.Proofs.YtnjpceocnldlfaaGreat
