import Derived.Test.YtlbjfbpejomkmaaGreatWkWnd
import Derived.Test.YtlbjfbpejomkmaaGreatWkRfD
/- The reference's Valid of an interval and its Parts. -/
namespace Go.Proofs.YtlbjfbpejomkmaaGreat
open Go.RowKit Wk

theorem valid10_any (x y : Int) (w : World) :
  Calls Tryz.prog 50 #[.agg #[.int .i64 x, .int .i64 y]] w fun e w' => e = .returned (.bool (ivB (x, y))) ∧ Below w.heap.size w w' := by
 go_enter Tryz.func50, Tryz.ntmps50
 go_wp2_with (go_at_call 80; refine (line10_any _ _).mono ?_; rintro e w' ⟨rfl, rfl⟩)
 all_goals go_ret
 all_goals exact ⟨ret_bool (by simp [ivB, *]), (Below.refl _ _).alloc (Nat.le_refl _) _⟩
end Go.Proofs.YtlbjfbpejomkmaaGreat
