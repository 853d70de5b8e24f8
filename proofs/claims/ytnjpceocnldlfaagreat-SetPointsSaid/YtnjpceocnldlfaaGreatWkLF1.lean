import Derived.Test.YtnjpceocnldlfaaGreatWkLq
import Derived.Test.YtnjpceocnldlfaaGreatWkWid
/- The law SetForms. -/
namespace Go.Proofs.YtnjpceocnldlfaaGreat
open Go.RowKit Wk

/-- two sets, one behind the other, are a slice of sets -/
theorem rdT_two {W : World} {a b : St} {a1 a2 a3 b1 b2 b3 : Value} (h : RdSt W a a1 a2 a3) (h' : RdSt W b b1 b2 b3) :
    RdT (W.alloc (.cells #[.int .i64 a.lf.1, a1, .int .i64 a.rt.1, a2, .int .i64 a.fr, .int .i64 a.to, a3, .int .i64 b.lf.1, b1, .int .i64 b.rt.1, b2, .int .i64 b.fr, .int .i64 b.to, b3] 26)) (.slice (some ⟨W.heap.size, 0, none⟩) 2 2) [(a, a1, a2, a3), (b, b1, b2, b3)] := by
  have hb := (Below.refl W.heap.size W).alloc (Nat.le_refl _) (.cells #[.int .i64 a.lf.1, a1, .int .i64 a.rt.1, a2, .int .i64 a.fr, .int .i64 a.to, a3, .int .i64 b.lf.1, b1, .int .i64 b.rt.1, b2, .int .i64 b.fr, .int .i64 b.to, b3] 26)
  refine ⟨by simp, _, _, rfl, fun i x hx => ?_⟩
  rcases i with _ | _ | i
  · simp at hx
    subst hx
    refine ⟨keepSt hb h, ?_, ?_, ?_, ?_, ?_, ?_, ?_⟩ <;> simp [go_sem]
  · simp at hx
    subst hx
    refine ⟨keepSt hb h', ?_, ?_, ?_, ?_, ?_, ?_, ?_⟩ <;> simp [go_sem]
  · simp at hx

end Go.Proofs.YtnjpceocnldlfaaGreat
