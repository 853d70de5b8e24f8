import Derived.Test.YtlbjfbpejomkmaaGreatWkAgQc
/- Agenda: the late tasks. -/
namespace Go.Proofs.YtlbjfbpejomkmaaGreat
open Go.RowKit Wk

def LtPost (L : List Nat) (w : World) (e : Ending) (w' : World) : Prop := ∃ v, e = .returned v ∧ OwnI w' w.heap.size v (natI L) ∧ Below w.heap.size w w'

end Go.Proofs.YtlbjfbpejomkmaaGreat
