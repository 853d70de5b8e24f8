import Derived.Test.YtnjpceocnldlfaaGreatWkWnd
import Derived.Test.YtnjpceocnldlfaaGreatWkRfD
/- The reference's Valid of an interval and its Parts. -/
namespace Go.Proofs.YtnjpceocnldlfaaGreat
open Go.RowKit Wk

theorem valid10_any (x y : Int) (w : World) :
    Calls Tryz.prog 26 #[.agg #[.int .i64 x, .int .i64 y]] w fun e w' => e = .returned (.bool (ivB (x, y))) ∧ Below w.heap.size w w' := by
  go_enter Tryz.func26, Tryz.ntmps26
  go_wp2_with (go_at_call 72; refine (line10_any _ _).mono ?_; rintro e w' ⟨rfl, rfl⟩)
  all_goals go_ret
  all_goals exact ⟨ret_bool (by simp [ivB, *]), (Below.refl _ _).alloc (Nat.le_refl _) _⟩
end Go.Proofs.YtnjpceocnldlfaaGreat
