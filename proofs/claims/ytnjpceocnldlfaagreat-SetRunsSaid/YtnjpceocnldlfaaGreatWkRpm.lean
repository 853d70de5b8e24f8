import Derived.Test.YtnjpceocnldlfaaGreatWkFrm
import Derived.Test.YtnjpceocnldlfaaGreatWkPw
/- Replace as a function of values. -/
namespace Go.Proofs.YtnjpceocnldlfaaGreat
namespace Wk
theorem allV_rv {l : List Sp} (h : rvB l = true) : allV l = true := by
  rw [allV_iff]
  intro i hi
  have := canon_of_rvB h
  rw [ivB_iff]
  have hm := idx_mem hi
  have h1 := this.2.1 _ hm
  have h2 := canon_pos this.1 _ hm
  omega
end Wk
end Go.Proofs.YtnjpceocnldlfaaGreat
