import Derived.Test.YtlbjfbpejomkmaaGreatWkWnd
import Derived.Test.YtlbjfbpejomkmaaGreatWkRfD
/- The reference's Valid of an interval and its Parts. -/
namespace Go.Proofs.YtlbjfbpejomkmaaGreat
open Go.RowKit Wk

theorem line_iff (x : Int) : lineB x = true ↔ -4398046511104 ≤ x ∧ x ≤ 4398046511104 := by unfold lineB; simp
theorem valid10_any (x y : Int) (w : World) :
    Calls Tryz.prog 50 #[.agg #[.int .i64 x, .int .i64 y]] w fun e w' => e = .returned (.bool (ivB (x, y))) ∧ Below w.heap.size w w' := by
  go_enter Tryz.func50, Tryz.ntmps50
  go_wp2_with (go_at_call 80; refine (line10_any _ _).mono ?_; rintro e w' ⟨rfl, rfl⟩)
  all_goals go_ret
  all_goals exact ⟨ret_bool (by simp [ivB, *]), (Below.refl _ _).alloc (Nat.le_refl _) _⟩
def RPaPost (b : Bool) (s : St) (t n : Int) (w : World) (e : Ending) (w' : World) : Prop :=
  ∃ v, e = .returned (.tuple #[v, .int .i64 (partsM b s t n).2]) ∧ RdS w' v (partsM b s t n).1 ∧ Below w.heap.size w w'

end Go.Proofs.YtlbjfbpejomkmaaGreat
