import Derived.Test.YtnjpceocnldlfaaGreatWkVal
import Derived.Test.YtnjpceocnldlfaaGreatWkBd
import Derived.Test.YtnjpceocnldlfaaGreatWkPl
/- work: line, amount, rank, nth. -/
namespace Go.Proofs.YtnjpceocnldlfaaGreat
open Go.RowKit Wk

theorem div_meas {P x ms : Int} (hP : 1 ≤ P) (h0 : 0 ≤ ms) (h1 : ms ≤ P) : (0 ≤ x → 0 ≤ x / P * ms ∧ x / P * ms ≤ x) ∧ (x ≤ 0 → x - P < x / P * ms ∧ x / P * ms ≤ 0) := by
  have hm := mod_lo x hP
  constructor
  · intro hx
    have hk : 0 ≤ x / P := Int.ediv_nonneg hx (by omega)
    have h2 : x / P * ms ≤ x / P * P := Int.mul_le_mul_of_nonneg_left h1 hk
    have h3 : 0 ≤ x / P * ms := Int.mul_nonneg hk h0
    omega
  · intro hx
    have hk : x / P ≤ 0 := by
      apply Decidable.byContradiction
      intro hc
      have : 1 * P ≤ x / P * P := Int.mul_le_mul_of_nonneg_right (by omega) (by omega)
      omega
    have h2 : x / P * P ≤ x / P * ms := Int.mul_le_mul_of_nonpos_left hk h1
    have h3 : x / P * ms ≤ 0 := Int.mul_nonpos_of_nonpos_of_nonneg hk h0
    omega

end Go.Proofs.YtnjpceocnldlfaaGreat
/- work.count. -/
namespace Go.Proofs.YtnjpceocnldlfaaGreat
open Go.RowKit Wk

/-- the three parts of a count -/
def cntL (s : St) (a b : Int) : Int := if min a s.fr < min b s.fr then rankP s.lf (min b s.fr) - rankP s.lf (min a s.fr) else 0
def cntR (s : St) (a b : Int) : Int := if max a s.to < max b s.to then rankP s.rt (max b s.to) - rankP s.rt (max a s.to) else 0
def cntM (s : St) (a b : Int) : Int := if min (max a s.fr) s.to < min (max b s.fr) s.to then rank s.l (min (max b s.fr) s.to) - rank s.l (min (max a s.fr) s.to) else 0

end Go.Proofs.YtnjpceocnldlfaaGreat
/- work.add. -/
namespace Go.Proofs.YtnjpceocnldlfaaGreat
open Go.RowKit Wk

end Go.Proofs.YtnjpceocnldlfaaGreat
/- work: Measure, Add, Deadline. -/
namespace Go.Proofs.YtnjpceocnldlfaaGreat
open Go.RowKit Wk

end Go.Proofs.YtnjpceocnldlfaaGreat
