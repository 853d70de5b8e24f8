import Derived.Test.YtkfonfheakpcbaaGreatWkRow
/- Opening a span that came in. No conditions. -/
namespace Go.Proofs.YtkfonfheakpcbaaGreat
open Go.ChangeShapes Go.WideShapes Go.ChangeAt Go.RowKit Wk

set_option maxRecDepth 100000 in
theorem open_span {H : Type} {enc : TypeId × Value → H} {W : World} {base : Nat} {spare : Nat → Bool} {held : Bool} {v : Value} {d : DataW H} {p : List MemPlace} (hv : Value.okWide Tryz.prog W .any base 44 v)
    (h : DataW.Trod enc Tryz.prog W 0 spare held 44 v d p) : ∃ x y : Int, v = .agg #[.int .i64 x, .int .i64 y] := by
  obtain ⟨cs, rfl, hsz⟩ := okWide_struct (P := Tryz.prog) Tryz.underlying44 hv
  obtain ⟨fuel, h⟩ := h
  obtain ⟨xs, k, rfl, hx, hcl, hxl, hf⟩ := DataW.trod_struct (P := Tryz.prog) Tryz.underlying44 h
  have hc : Tryz.prog.cellsOf 44 = 2 := by kernel_rfl
  have hc3 : Tryz.prog.cellsOf 3 = 1 := by kernel_rfl
  clear hx h hsz
  simp only [Value.cells] at hcl hf
  obtain ⟨cl⟩ := cs
  rw [hc] at hcl
  simp only at hcl hf
  match xs, hxl, cl, hcl with
  | [y0, y1], _, [u0, u1], _ =>
    have g0 := hf 0 _ rfl
    have g1 := hf 1 _ rfl
    simp [hc3] at g0 g1
    obtain ⟨x, e0, _⟩ := DataW.trod_int (P := Tryz.prog) Tryz.underlying3 g0
    obtain ⟨y, e1, _⟩ := DataW.trod_int (P := Tryz.prog) Tryz.underlying3 g1
    simp at e0 e1
    subst e0 e1
    exact ⟨x, y, rfl⟩
end Go.Proofs.YtkfonfheakpcbaaGreat
