import Derived.Test.YtlbjfbpejomkmaaGreatWkBd
import Derived.Test.YtlbjfbpejomkmaaGreatWkPr
import Derived.Test.YtlbjfbpejomkmaaGreatWkBg
/- periodic.limited. -/
namespace Go.Proofs.YtlbjfbpejomkmaaGreat
open Go.RowKit Wk

def put2 (W : World) (b : Nat) (u0 u1 : Value) : World := (W.setCell ⟨b, 0, none⟩ u0).setCell ⟨b, 1, none⟩ u1
def Box2 (W : World) (b : Nat) (x0 x1 : Value) : Prop := (W.cell? ⟨b, 0, none⟩ = some x0 ∧ W.cell? ⟨b, 1, none⟩ = some x1) ∧ W.frozen? ⟨b, 0, none⟩ = false ∧ W.frozen? ⟨b, 1, none⟩ = false
theorem Box2.below {W X : World} {b : Nat} {x0 x1 : Value} (h : Box2 W b x0 x1) (hX : Below W.heap.size W X) : Box2 X b x0 x1 :=
  ⟨⟨keepCell hX h.1.1, keepCell hX h.1.2⟩, keepFrozen hX h.1.1 h.2.1, keepFrozen hX h.1.2 h.2.2⟩
theorem Box2.put {W : World} {b : Nat} {x0 x1 : Value} (h : Box2 W b x0 x1) (u0 u1 : Value) : (put2 W b u0 u1).cell? ⟨b, 0, none⟩ = some u0 ∧ (put2 W b u0 u1).cell? ⟨b, 1, none⟩ = some u1 := by
  refine ⟨?_, ?_⟩ <;> simp [put2, go_sem, h.1.1, h.1.2]
end Go.Proofs.YtlbjfbpejomkmaaGreat
namespace Go.Proofs.YtlbjfbpejomkmaaGreat
open Go.RowKit Wk

theorem inL_perm {a b : List Sp} (h : a.Perm b) (x : Int) : inL a x = inL b x := by
  induction h with
  | nil => rfl
  | cons s _ ih => simp only [inL, ih]
  | swap s t l => simp only [inL]; rw [← Bool.or_assoc, ← Bool.or_assoc, Bool.or_comm (_ && _) (_ && _)]
  | trans _ _ h1 h2 => exact h1.trans h2
theorem join_perm {L L' : List Sp} (hp : L'.Perm L) (hs : L'.Pairwise (fun a b => a.1 ≤ b.1)) (hpos : ∀ s ∈ L, s.1 < s.2) : Canon (joinL L') ∧ (∀ x, inL (joinL L') x = inL L x) ∧ (joinL L').length ≤ L.length := by
  obtain ⟨h1, h2⟩ := joinL_ok (fun s hs => hpos s (hp.mem_iff.1 hs)) hs
  refine ⟨h1, fun x => by rw [h2, inL_perm hp], ?_⟩
  have := joinL_len L' L'.length (Nat.le_refl _)
  rw [List.take_length, hp.length_eq] at this
  exact this
end Go.Proofs.YtlbjfbpejomkmaaGreat
