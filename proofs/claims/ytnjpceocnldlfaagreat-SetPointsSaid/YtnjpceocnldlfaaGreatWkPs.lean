import Derived.Test.YtnjpceocnldlfaaGreatWkPr
/- Purely periodic sets: their form, their unions, plain. -/
namespace Go.Proofs.YtnjpceocnldlfaaGreat
namespace Wk
theorem form_pure {p : Per} (h : pvB p.1 p.2 = true) : formF (pureF p) = (pureF p, 0) := by
  have he : earlyB (pureF p) = true := by
    unfold earlyB pureF
    simp only [ak_pe h]
    rfl
  exact form_early (ak_pair h) he
theorem VB_pure {p : Per} (h : pvB p.1 p.2 = true) : VB (pureF p) = true := ak_VB h h rfl (form_pure h)
end Wk
end Go.Proofs.YtnjpceocnldlfaaGreat
