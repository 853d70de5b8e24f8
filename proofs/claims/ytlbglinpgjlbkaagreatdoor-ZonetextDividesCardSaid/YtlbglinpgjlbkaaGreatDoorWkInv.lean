import Derived.Test.YtlbglinpgjlbkaaGreatDoorWkSeg
import Derived.OrdersHeld
/- A region that draws its order, shown by what holds between its operations. -/
namespace Go.Proofs.YtlbglinpgjlbkaaGreatDoor
open Go.RowKit

theorem wpOp_of_list {P : Program} {ops : Array Oper} {Q : Exit → Act → World → Prop} {K : Act → World → Prop} {i : Nat} {o : Oper} {a : Act} {w : World} (ho : ops[i]? = some o)
  (h : wpList P ops (atEnd K Q) [o] a w) : wpOp P ops Q i K a w := by
 unfold wpOp
 rw [ho]
 simp only
 unfold wpList at h
 split
 ·rename_i hw
  rw [if_pos hw] at h
  refine h.imp (fun hh => ?_) (fun hh => hh)
  unfold Oper.wp at hh ⊢
  rw [upon_atEnd] at hh
  exact hh
 ·rename_i hw
  rw [if_neg hw] at h
  exact h
def openN (l : Array Bool) : Nat := l.toList.countP (fun b => !b)
theorem openN_set {l : Array Bool} {i : Nat} (h : l[i]? = some false) : openN (l.setIfInBounds i true) + 1 ≤ openN l := by
 unfold openN
 have hi : i < l.size := by
  rcases Nat.lt_or_ge i l.size with g | g
  ·exact g
  ·rw [Array.getElem?_eq_none g] at h; cases h
 rw [Array.toList_setIfInBounds]
 have hl : l.toList[i]? = some false := by rw [Array.getElem?_toList]; exact h
 generalize l.toList = q at hl
 clear h hi
 induction q generalizing i with
 | nil => simp at hl
 | cons b r ih =>
  cases i with
  | zero =>
   simp at hl
   subst hl
   simp
  | succ i =>
   have := ih (i := i) (by simpa using hl)
   rw [List.set_cons_succ, List.countP_cons, List.countP_cons]
   omega
theorem openN_none {l : Array Bool} (h : openN l = 0) {i : Nat} : l[i]? ≠ some false := fun hi => by
 have := openN_set hi
 omega
theorem getD_false {l : Array Bool} {i : Nat} (h : l.getD i true = false) : l[i]? = some false := by
 rw [Array.getD_eq_getD_getElem?] at h
 cases hi : l[i]? with
 | none => rw [hi] at h; cases h
 | some b => rw [hi] at h; simp at h; rw [h]
theorem wpAny_inv {P : Program} {md : Region.Mode} {ops : Array Oper} {Q : Exit → Act → World → Prop} (I : Array Bool → Act → World → Prop)
  (hs : ∀ listed a w i, I listed a w → i ∈ Region.ready md ops listed → wpOp P ops Q i (fun a' w' => I (listed.setIfInBounds i true) a' w') a w)
  (he : ∀ listed a w, I listed a w → Region.ready md ops listed = [] → Q .normal a w) :
  ∀ (fuel : Nat) (listed : Array Bool) (a : Act) (w : World), I listed a w → openN listed ≤ fuel → wpAny P md ops Q fuel listed a w
 | 0, listed, a, w, hI, hf => by
  have hr : Region.ready md ops listed = [] := by
   cases hr : Region.ready md ops listed with
   | nil => rfl
   | cons i r =>
    exfalso
    have hm : i ∈ Region.ready md ops listed := by rw [hr]; simp
    obtain ⟨h0, _⟩ := mem_ready.1 hm
    exact openN_none (by omega) (getD_false h0)
  exact ⟨hr, he _ _ _ hI hr⟩
 | fuel + 1, listed, a, w, hI, hf => by
  refine ⟨fun hr => he _ _ _ hI hr, fun i hi => ?_⟩
  obtain ⟨h0, _⟩ := mem_ready.1 hi
  have hset := openN_set (getD_false h0)
  refine wpOp_mono (fun a' w' h' => wpAny_inv I hs he fuel _ a' w' h' ?_) (hs _ _ _ _ hI hi)
  omega
end Go.Proofs.YtlbglinpgjlbkaaGreatDoor
