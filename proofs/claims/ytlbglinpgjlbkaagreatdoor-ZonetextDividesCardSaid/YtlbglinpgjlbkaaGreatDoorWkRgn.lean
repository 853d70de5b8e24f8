import Derived.Test.YtlbglinpgjlbkaaGreatDoorWkAgI
import Derived.Laws.CopyOwn
/- A region that draws its order, by an invariant; and what has been listed is closed under what it waits for. -/
namespace Go.Proofs.YtlbglinpgjlbkaaGreatDoor
open Go.RowKit

def ClosedL (md : Region.Mode) (ops : Array Oper) (ls : Array Bool) : Prop := ∀ j o, ls.getD j false = true → ops[j]? = some o → ∀ e ∈ o.after, Region.binds md e = true → ls.getD e.on false = true
theorem ClosedL.set {md : Region.Mode} {ops : Array Oper} {ls : Array Bool} (h : ClosedL md ops ls) {i : Nat} (hi : i ∈ Region.ready md ops ls) : ClosedL md ops (ls.setIfInBounds i true) := by
 obtain ⟨hj, op, hop, hall⟩ := mem_ready.1 hi
 intro j o hl ho e he hb
 have keep : ls.getD e.on false = true → (ls.setIfInBounds i true).getD e.on false = true := fun hh => by
  by_cases hq : i = e.on
  ·subst hq
   have hlt : e.on < ls.size := by
    rcases Nat.lt_or_ge e.on ls.size with g | g
    ·exact g
    ·rw [Array.getD_eq_getD_getElem?, Array.getElem?_eq_none g] at hh; cases hh
   exact getD_self hlt
  ·rw [getD_ne hq]; exact hh
 by_cases hq : i = j
 ·subst hq
  rw [hop] at ho
  cases ho
  exact keep (hall e he hb)
 ·exact keep (h j o (by rwa [getD_ne hq] at hl) ho e he hb)
theorem ClosedL.nil {md : Region.Mode} {ops : Array Oper} {ls : Array Bool} (h : ∀ j, ls.getD j false = false) : ClosedL md ops ls := fun j o hl => by rw [h j] at hl; cases hl
theorem getD_rep (n j : Nat) : (Array.replicate n false).getD j false = false := by
 rw [Array.getD_eq_getD_getElem?, Array.getElem?_replicate]
 split <;> rfl
theorem ClosedL.off {md : Region.Mode} {ops : Array Oper} {ls : Array Bool} (h : ClosedL md ops ls) {i j : Nat} {o : Oper} (ho : ops[j]? = some o) (hi : ls.getD i false = false) (he : ∃ e ∈ o.after, Region.binds md e = true ∧ e.on = i) : ls.getD j false = false := by
 cases hl : ls.getD j false with
 | false => rfl
 | true =>
  obtain ⟨e, he, hb, rfl⟩ := he
  have := h j o hl ho e he hb
  rw [hi] at this
  cases this
theorem wpAny_invC {P : Program} {md : Region.Mode} {ops : Array Oper} {Q : Exit → Act → World → Prop} (I : Array Bool → Act → World → Prop)
  (hs : ∀ listed a w i, I listed a w → ClosedL md ops listed → i ∈ Region.ready md ops listed → wpOp P ops Q i (fun a' w' => I (listed.setIfInBounds i true) a' w') a w)
  (he : ∀ listed a w, I listed a w → Region.ready md ops listed = [] → Q .normal a w) (fuel : Nat) (listed : Array Bool) (a : Act) (w : World) (hI : I listed a w) (hC : ∀ j, listed.getD j false = false) (hf : openN listed ≤ fuel) : wpAny P md ops Q fuel listed a w := by
 refine wpAny_inv (fun l a w => I l a w ∧ ClosedL md ops l) (fun l a w i h hi => ?_) (fun l a w h hr => he l a w h.1 hr) fuel listed a w ⟨hI, ClosedL.nil hC⟩ hf
 exact wpOp_mono (fun a' w' h' => ⟨h', h.2.set hi⟩) (hs l a w i h.1 h.2 hi)
theorem not_listed {l : Array Bool} {j : Nat} (h : l.getD j true = false) : l.getD j false = false := by
 have h := getD_false h
 rw [Array.getD_eq_getD_getElem?, h]
 rfl
end Go.Proofs.YtlbglinpgjlbkaaGreatDoor
