import Derived.Test.YtlbjfbpejomkmaaGreatWkRowG
import Derived.Test.YtlbjfbpejomkmaaGreatWkAgQj
/- Opening a []Task: its length is at most its capacity. -/
namespace Go.Proofs.YtlbjfbpejomkmaaGreat
open Go.ChangeShapes Go.WideShapes Go.ChangeAt Go.RowKit Wk
set_option maxRecDepth 100000 in
theorem tasks_cap {H : Type} {enc : TypeId × Value → H} {W : World} {base : Nat} {spare : Nat → Bool} {held : Bool} {v : Value} {d : DataW H} {p : List MemPlace} (hv : Value.okWide Tryz.prog W .any base 22 v)
    (h : DataW.Trod enc Tryz.prog W 0 spare held 22 v d p) : CapK v := by
  obtain ⟨a, n, c, rfl⟩ := okWide_slice (P := Tryz.prog) Tryz.underlying22 hv
  obtain ⟨fuel, h⟩ := h
  rcases Deep.open_slice (P := Tryz.prog) Tryz.underlying22 h with ⟨e, _⟩ | ⟨a', len, cap, m, k, D, Pl, e, hb, hl, hm, hmm, _, hx⟩
  · cases e
    intro a n c h
    cases h
    exact Nat.le_refl _
  · cases e
    intro a n c h
    cases h
    exact hl
end Go.Proofs.YtlbjfbpejomkmaaGreat
