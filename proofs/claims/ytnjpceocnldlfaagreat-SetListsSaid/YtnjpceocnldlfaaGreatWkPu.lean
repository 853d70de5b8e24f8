import Derived.Test.YtnjpceocnldlfaaGreatWkPr
import Derived.Test.YtnjpceocnldlfaaGreatWkPq
import Derived.Test.YtnjpceocnldlfaaGreatWkBh
import Derived.Test.YtnjpceocnldlfaaGreatWkPl
/- Not and Move, in plain numbers. -/
namespace Go.Proofs.YtnjpceocnldlfaaGreat
namespace Wk
end Wk
end Go.Proofs.YtnjpceocnldlfaaGreat
namespace Go.Proofs.YtnjpceocnldlfaaGreat
namespace Wk
end Wk
end Go.Proofs.YtnjpceocnldlfaaGreat
namespace Go.Proofs.YtnjpceocnldlfaaGreat
namespace Wk
theorem hasS_pure (p : Per) (x : Int) : hasS (pureF p) x = hasP p x := by
  unfold hasS pureF
  simp only
  split
  · rfl
  · rfl
end Wk
end Go.Proofs.YtnjpceocnldlfaaGreat
namespace Go.Proofs.YtnjpceocnldlfaaGreat
namespace Wk
end Wk
end Go.Proofs.YtnjpceocnldlfaaGreat
namespace Go.Proofs.YtnjpceocnldlfaaGreat
namespace Wk
end Wk
end Go.Proofs.YtnjpceocnldlfaaGreat
