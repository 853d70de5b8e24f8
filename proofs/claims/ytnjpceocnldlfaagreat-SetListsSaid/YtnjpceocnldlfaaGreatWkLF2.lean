import Derived.Test.YtnjpceocnldlfaaGreatWkLF1
import Derived.Test.YtnjpceocnldlfaaGreatWkWnd
import Derived.Test.YtnjpceocnldlfaaGreatWkRPa
/- The law SetWindows. -/
namespace Go.Proofs.YtnjpceocnldlfaaGreat
open Go.RowKit Wk

theorem rdT_one {W : World} {a : St} {a1 a2 a3 : Value} (h : RdSt W a a1 a2 a3) :
    RdT (W.alloc (.cells #[.int .i64 a.lf.1, a1, .int .i64 a.rt.1, a2, .int .i64 a.fr, .int .i64 a.to, a3] 26)) (.slice (some ⟨W.heap.size, 0, none⟩) 1 1) [(a, a1, a2, a3)] := by
  have hb := (Below.refl W.heap.size W).alloc (Nat.le_refl _) (.cells #[.int .i64 a.lf.1, a1, .int .i64 a.rt.1, a2, .int .i64 a.fr, .int .i64 a.to, a3] 26)
  refine ⟨by simp, _, _, rfl, fun i x hx => ?_⟩
  rcases i with _ | i
  · simp at hx
    subst hx
    refine ⟨keepSt hb h, ?_, ?_, ?_, ?_, ?_, ?_, ?_⟩ <;> simp [go_sem]
  · simp at hx
end Go.Proofs.YtnjpceocnldlfaaGreat
