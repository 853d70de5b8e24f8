import Derived.Test.YtlbjfbpejomkmaaGreatWkBa
import Derived.Test.YtlbjfbpejomkmaaGreatWkPl
/- The reference's runs: Number, Span, Spans, Valid, Measure. -/
namespace Go.Proofs.YtlbjfbpejomkmaaGreat
open Go.RowKit Wk

end Go.Proofs.YtlbjfbpejomkmaaGreat
namespace Go.Proofs.YtlbjfbpejomkmaaGreat
open Go.RowKit Wk

theorem OwnS.frozen {w : World} {B g c n : Nat} {l : List Sp} (h : OwnS w B (.slice (some ⟨g, 0, none⟩) n c) l) (j : Nat) : w.frozen? ⟨g, j, none⟩ = false := by
 have hn : n = l.length := by
  rcases h.2 with ⟨e, _⟩ | ⟨g', cap, cur, e, _⟩
  ·cases e
  ·cases e; rfl
 subst hn
 exact World.ownsRow.frozenAt h j

end Go.Proofs.YtlbjfbpejomkmaaGreat
