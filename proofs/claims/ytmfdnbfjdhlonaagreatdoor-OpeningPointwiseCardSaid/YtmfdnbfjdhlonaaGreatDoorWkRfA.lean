import Derived.Test.YtmfdnbfjdhlonaaGreatDoorWkBa
import Derived.Test.YtmfdnbfjdhlonaaGreatDoorWkPl
/- The reference's runs: Number, Span, Spans, Valid, Measure. -/
namespace Go.Proofs.YtmfdnbfjdhlonaaGreatDoor
open Go.RowKit Wk

end Go.Proofs.YtmfdnbfjdhlonaaGreatDoor
namespace Go.Proofs.YtmfdnbfjdhlonaaGreatDoor
open Go.RowKit Wk

theorem OwnS.setLast {w : World} {B g c : Nat} {K : List Sp} {y z : Int} {n : Nat} (h : OwnS w B (.slice (some ⟨g, 0, none⟩) n c) (K ++ [(y, z)])) (u : Int) :
  OwnS (w.setCell ⟨g, K.length * 2 + 1, none⟩ (.int .i64 u)) B (.slice (some ⟨g, 0, none⟩) n c) (K ++ [(y, u)]) ∧ w.grownBy (w.setCell ⟨g, K.length * 2 + 1, none⟩ (.int .i64 u)) (some g) := by
 have hn : n = (K ++ [(y, z)]).length := by
  rcases h.2 with ⟨e, _⟩ | ⟨g', cap, cur, e, _⟩
  ·cases e
  ·cases e; rfl
 subst hn
 have hs := World.ownsRow.stored h (K.length * 2 + 1) (.int .i64 u)
 refine ⟨?_, hs.2⟩
 have e : (flatS (K ++ [(y, z)])).set (K.length * 2 + 1) (.int .i64 u) = flatS (K ++ [(y, u)]) := by
  rw [flatS_append, flatS_append, List.set_append, if_neg (by rw [flatS_length]; omega), flatS_length]
  congr 1
  rw [show K.length * 2 + 1 - K.length * 2 = 1 by omega]
  rfl
 have h1 := hs.1
 rw [e] at h1
 unfold OwnS
 have e2 : (K ++ [(y, u)]).length = (K ++ [(y, z)]).length := by simp
 rw [e2]
 exact h1
theorem OwnS.frozen {w : World} {B g c n : Nat} {l : List Sp} (h : OwnS w B (.slice (some ⟨g, 0, none⟩) n c) l) (j : Nat) : w.frozen? ⟨g, j, none⟩ = false := by
 have hn : n = l.length := by
  rcases h.2 with ⟨e, _⟩ | ⟨g', cap, cur, e, _⟩
  ·cases e
  ·cases e; rfl
 subst hn
 exact World.ownsRow.frozenAt h j

end Go.Proofs.YtmfdnbfjdhlonaaGreatDoor
