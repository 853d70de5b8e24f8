import Derived.Test.YtnjpceocnldlfaaGreatWkLq
import Derived.Test.YtnjpceocnldlfaaGreatWkWid
/- The law SetForms. -/
namespace Go.Proofs.YtnjpceocnldlfaaGreat
open Go.RowKit Wk

theorem eqT_same {s t : St} (h1 : VB s = true) (h2 : VB t = true) : eqTB s t = sameB s t := by
  have a1 := okS_of_VB h1
  have a2 := okS_of_VB h2
  unfold eqTB sameB peB
  rw [h1, h2, a1.lf, a1.rt, a2.lf, a2.rt]
  simp only [Bool.true_and]
  rw [Bool.eq_iff_iff]
  simp only [Bool.and_eq_true]
  constructor
  · rintro ⟨⟨⟨⟨p, q⟩, r⟩, u⟩, v⟩; exact ⟨⟨⟨⟨r, u⟩, p⟩, q⟩, v⟩
  · rintro ⟨⟨⟨⟨r, u⟩, p⟩, q⟩, v⟩; exact ⟨⟨⟨⟨p, q⟩, r⟩, u⟩, v⟩
end Go.Proofs.YtnjpceocnldlfaaGreat
