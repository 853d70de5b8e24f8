import Derived.Test.YtnjpceocnldlfaaGreatWkBa
import Derived.Orders
/- A region walked in pieces: what holds of the frame between two of its operations. -/
namespace Go.Proofs.YtnjpceocnldlfaaGreat
open Go.RowKit

/-- Q, but K where the list has ended -/
def atEnd (K : Act → World → Prop) (Q : Exit → Act → World → Prop) : Exit → Act → World → Prop
  | .normal, a, w => K a w
  | e, a, w => Q e a w
theorem upon_atEnd {P : Program} {o : Oper} {a : Act} {next : Act → World → Prop} {K : Act → World → Prop} {Q : Exit → Act → World → Prop} (r : Result Next) :
    o.upon P a next (atEnd K Q) r = o.upon P a next Q r := by
  unfold Oper.upon
  split <;> rfl
theorem wpList_split {P : Program} {ops : Array Oper} {Q : Exit → Act → World → Prop} {K : Act → World → Prop} {l2 : List Oper} (h2 : ∀ a w, K a w → wpList P ops Q l2 a w) :
    ∀ (l1 : List Oper) (a : Act) (w : World), wpList P ops (atEnd K Q) l1 a w → wpList P ops Q (l1 ++ l2) a w
  | [], a, w, h => h2 a w h
  | o :: rest, a, w, h => by
    have ih := wpList_split h2 rest
    rw [List.cons_append]
    unfold wpList at h ⊢
    split
    · rename_i hw
      rw [if_pos hw] at h
      refine h.imp (fun hh => ?_) (fun hh => hh)
      unfold Oper.wp at hh ⊢
      rw [upon_atEnd] at hh
      exact Oper.wp_mono ih hh
    · rename_i hw
      rw [if_neg hw] at h
      exact ih _ _ h
theorem wpList_at {P : Program} {ops : Array Oper} {Q : Exit → Act → World → Prop} {l : List Oper} {a : Act} {w : World} (n : Nat) (K : Act → World → Prop)
    (h1 : wpList P ops (atEnd K Q) (l.take n) a w) (h2 : ∀ a' w', K a' w' → wpList P ops Q (l.drop n) a' w') : wpList P ops Q l a w := by
  have := wpList_split h2 (l.take n) a w h1
  rwa [List.take_append_drop] at this
end Go.Proofs.YtnjpceocnldlfaaGreat
