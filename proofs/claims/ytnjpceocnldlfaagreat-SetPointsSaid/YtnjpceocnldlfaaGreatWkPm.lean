import Derived.Test.YtnjpceocnldlfaaGreatWkPl
/- The reference's working time, plain. -/
namespace Go.Proofs.YtnjpceocnldlfaaGreat
namespace Wk

end Wk
end Go.Proofs.YtnjpceocnldlfaaGreat
