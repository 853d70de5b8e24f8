import Derived.Test.YtlbglinpgjlbkaaGreatDoorWkQa
/- Names in order: what is put in one by one is what sorting gives. No conditions. -/
namespace Go.Proofs.YtlbglinpgjlbkaaGreatDoor
namespace Wk

def putM : List Bs → Bs → List Bs
 | [], n => [n]
 | x :: r, n => if n < x then n :: x :: r else x :: putM r n
theorem putM_perm (n : Bs) : ∀ l : List Bs, (putM l n).Perm (n :: l)
 | [] => List.Perm.refl _
 | x :: r => by
  unfold putM
  split
  ·exact List.Perm.refl _
  ·exact ((putM_perm n r).cons x).trans (List.Perm.swap n x r)
theorem putM_pw (n : Bs) : ∀ {l : List Bs}, l.Pairwise (fun a b => a ≤ b) → (putM l n).Pairwise (fun a b => a ≤ b)
 | [], _ => by simp [putM]
 | x :: r, h => by
  obtain ⟨h1, h2⟩ := List.pairwise_cons.1 h
  unfold putM
  by_cases hn : n < x
  ·rw [if_pos hn]
   have hx : n ≤ x := List.le_of_lt hn
   refine List.pairwise_cons.2 ⟨fun y hy => ?_, h⟩
   rcases List.mem_cons.1 hy with rfl | hy
   ·exact hx
   ·exact List.le_trans hx (h1 y hy)
  ·rw [if_neg hn]
   refine List.pairwise_cons.2 ⟨fun y hy => ?_, putM_pw n h2⟩
   rcases List.mem_cons.1 ((putM_perm n r).mem_iff.1 hy) with rfl | hy
   ·exact List.not_lt.1 hn
   ·exact h1 y hy
theorem fold_pw (l : List Bs) : ∀ {a : List Bs}, a.Pairwise (fun a b => a ≤ b) → (l.foldl putM a).Pairwise (fun a b => a ≤ b) ∧ (l.foldl putM a).Perm (a ++ l) := by
 induction l with
 | nil => intro a h; exact ⟨h, by simp⟩
 | cons x r ih =>
  intro a h
  obtain ⟨h1, h2⟩ := ih (putM_pw x h)
  refine ⟨h1, h2.trans ?_⟩
  have := (putM_perm x a).append_right r
  exact this.trans (List.perm_middle (l₁ := a) (a := x) (l₂ := r)).symm
theorem fold_sort (l : List Bs) : l.foldl putM [] = l.mergeSort fun x y => decide (x ≤ y) := by
 obtain ⟨h1, h2⟩ := fold_pw l (a := []) List.Pairwise.nil
 refine List.Perm.eq_of_pairwise (le := fun a b => decide (a ≤ b) = true) (fun a b _ _ h1 h2 => List.le_antisymm (of_decide_eq_true h1) (of_decide_eq_true h2)) (h1.imp fun {a b} h => decide_eq_true h)
  (List.pairwise_mergeSort (le := fun x y : Bs => decide (x ≤ y)) (fun a b c h1 h2 => decide_eq_true (List.le_trans (of_decide_eq_true h1) (of_decide_eq_true h2))) (fun a b => by
   rcases List.le_total a b with h | h
   ·simp [h]
   ·simp [h]) _) (h2.trans (List.mergeSort_perm _ _).symm)
theorem take_nx {α : Type} {L : List α} {i : Nat} (d : α) (h : i < L.length) : L.take (i + 1) = L.take i ++ [L.getD i d] := by
 rw [List.take_add_one, List.getElem?_eq_getElem h, List.getD_eq_getElem?_getD, List.getElem?_eq_getElem h]
 rfl
def namesM (s : SrT) : List Bs := if validB s = true then (s.zo.map ZoT.nm ++ s.lk.map LkT.nm).mergeSort fun x y => decide (x ≤ y) else []
end Wk
end Go.Proofs.YtlbglinpgjlbkaaGreatDoor
