import Derived.Test.YtlbglinpgjlbkaaGreatDoorWkP3
/- Zone texts: what Parse answers, its answer named. -/
namespace Go.Proofs.YtlbglinpgjlbkaaGreatDoor
open Go.RowKit Wk
def ParQ (S : SrT) (pa pc er : Int) (w : World) (e : Ending) (w' : World) : Prop :=
 ∃ rv zv lv Z, e = .returned (.tuple #[.agg #[rv, zv, lv], .agg #[.int .i64 pa, .int .i64 pc], .int .i64 er]) ∧ RdSr w' rv zv lv S Z ∧ CapV rv ∧ CapV zv ∧ CapV lv ∧ Below w.heap.size w w'
end Go.Proofs.YtlbglinpgjlbkaaGreatDoor
