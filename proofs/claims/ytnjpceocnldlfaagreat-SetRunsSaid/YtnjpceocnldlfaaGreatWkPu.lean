import Derived.Test.YtnjpceocnldlfaaGreatWkPs
import Derived.Test.YtnjpceocnldlfaaGreatWkPq
import Derived.Test.YtnjpceocnldlfaaGreatWkBh
import Derived.Test.YtnjpceocnldlfaaGreatWkPr
import Derived.Test.YtnjpceocnldlfaaGreatWkPl
/- Not and Move, in plain numbers. -/
namespace Go.Proofs.YtnjpceocnldlfaaGreat
namespace Wk
end Wk
end Go.Proofs.YtnjpceocnldlfaaGreat
/- Not and Move of sets, in plain numbers. -/
namespace Go.Proofs.YtnjpceocnldlfaaGreat
namespace Wk
end Wk
end Go.Proofs.YtnjpceocnldlfaaGreat
/- form keeps what a set has. -/
namespace Go.Proofs.YtnjpceocnldlfaaGreat
namespace Wk
end Wk
end Go.Proofs.YtnjpceocnldlfaaGreat
/- What the results of the operations on sets have. -/
namespace Go.Proofs.YtnjpceocnldlfaaGreat
namespace Wk
end Wk
end Go.Proofs.YtnjpceocnldlfaaGreat
/- Not and Move of a valid set are valid. -/
namespace Go.Proofs.YtnjpceocnldlfaaGreat
namespace Wk
end Wk
end Go.Proofs.YtnjpceocnldlfaaGreat
