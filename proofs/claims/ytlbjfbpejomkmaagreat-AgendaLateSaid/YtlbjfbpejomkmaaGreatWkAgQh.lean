import Derived.Test.YtlbjfbpejomkmaaGreatWkAgQc
import Derived.Test.YtlbjfbpejomkmaaGreatWkAgQa
/- Agenda: the reference's Line and has; the law's day. -/
namespace Go.Proofs.YtlbjfbpejomkmaaGreat
open Go.RowKit Wk

theorem line48_any (x : Int) (w : World) :
    Calls Tryz.prog 17 #[.int .i64 x] w fun e w' => e = .returned (.bool (lineB x)) ∧ w = w' := by
  go_enter Tryz.func17, Tryz.ntmps17
  go_wp2
  all_goals go_ret
  all_goals exact ⟨ret_bool (by rw [Bool.eq_iff_iff]; simp [lineB]; omega), rfl⟩
end Go.Proofs.YtlbjfbpejomkmaaGreat
