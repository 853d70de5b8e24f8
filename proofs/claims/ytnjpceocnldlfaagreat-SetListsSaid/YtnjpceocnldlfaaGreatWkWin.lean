import Derived.Test.YtnjpceocnldlfaaGreatWkTn
import Derived.Test.YtnjpceocnldlfaaGreatWkPl
/- timeset: Window, Next, Change; work: Open, Close, Parts. -/
namespace Go.Proofs.YtnjpceocnldlfaaGreat
open Go.RowKit Wk

def winM (b : Bool) (s : St) (f t : Int) : List Sp × Int :=
  if b = false ∨ ivB (f, t) = false then ([], 1) else if (memF (hasS s) f (t - f).toNat).length ≤ 2000 then (memF (hasS s) f (t - f).toNat, 0) else ([], 5)
end Go.Proofs.YtnjpceocnldlfaaGreat
