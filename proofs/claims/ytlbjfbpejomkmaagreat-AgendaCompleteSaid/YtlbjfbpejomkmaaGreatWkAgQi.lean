import Derived.Test.YtlbjfbpejomkmaaGreatWkAgQa
import Derived.Test.YtlbjfbpejomkmaaGreatWkAgPl
import Derived.Test.YtlbjfbpejomkmaaGreatWkPn
import Derived.Test.YtlbjfbpejomkmaaGreatWkAgQd
import Derived.Test.YtlbjfbpejomkmaaGreatWkAgQh
import Derived.Test.YtlbjfbpejomkmaaGreatWkRfE
import Derived.Test.YtlbjfbpejomkmaaGreatWkAgQe
import Derived.Test.YtlbjfbpejomkmaaGreatWkAgQc
import Derived.Test.YtlbjfbpejomkmaaGreatWkUn
import Derived.Test.YtlbjfbpejomkmaaGreatWkAgQf
/- Agenda, plain: adding over runs and gaps; what Next and Change say. -/
namespace Go.Proofs.YtlbjfbpejomkmaaGreat
namespace Wk

end Wk
end Go.Proofs.YtlbjfbpejomkmaaGreat
namespace Go.Proofs.YtlbjfbpejomkmaaGreat
open Go.RowKit Wk

end Go.Proofs.YtlbjfbpejomkmaaGreat
namespace Go.Proofs.YtlbjfbpejomkmaaGreat
open Go.RowKit Wk

end Go.Proofs.YtlbjfbpejomkmaaGreat
namespace Go.Proofs.YtlbjfbpejomkmaaGreat
open Go.RowKit Wk

end Go.Proofs.YtlbjfbpejomkmaaGreat
namespace Go.Proofs.YtlbjfbpejomkmaaGreat
open Go.RowKit Wk

theorem RowP.setAt {W : World} {g : Nat} {a : List Sp} (h : RowP W g a) {i : Nat} (hi : i < a.length) (s : Sp) : RowP ((W.setCell ⟨g, i * 2, none⟩ (.int .i64 s.1)).setCell ⟨g, i * 2 + 1, none⟩ (.int .i64 s.2)) g (a.set i s) := by
 intro k hk
 rw [List.length_set] at hk
 refine ⟨?_, ((frz_set ..).trans (frz_set ..)).trans (h k hk).2.1, ((frz_set ..).trans (frz_set ..)).trans (h k hk).2.2⟩
 unfold spAt
 rw [getD_setL a i k s (0, 0) hi]
 by_cases q : k = i
 ·subst q
  rw [if_pos rfl]
  exact ⟨(cell_ne (Or.inr (by omega))).trans (cell_eq (h k hk).1.1), cell_eq ((cell_ne (Or.inr (by omega))).trans (h k hk).1.2)⟩
 ·rw [if_neg q]
  exact ⟨((cell_ne (Or.inr (by omega))).trans (cell_ne (Or.inr (by omega)))).trans (h k hk).1.1, ((cell_ne (Or.inr (by omega))).trans (cell_ne (Or.inr (by omega)))).trans (h k hk).1.2⟩
end Go.Proofs.YtlbjfbpejomkmaaGreat
