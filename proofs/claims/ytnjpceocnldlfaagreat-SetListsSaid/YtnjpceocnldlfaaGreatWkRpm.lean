import Derived.Test.YtnjpceocnldlfaaGreatWkFrm
import Derived.Test.YtnjpceocnldlfaaGreatWkPv
/- Replace as a function of values. -/
namespace Go.Proofs.YtnjpceocnldlfaaGreat
namespace Wk
def holeF (i : Sp) : St := ⟨(1, []), (1, []), i.1, i.2, [i]⟩
def outB (i : Sp) (l : List Sp) : Bool := decide (0 < l.length) && (decide (firstFr l < i.1) || decide (i.2 < lastTo l))
def replM (s : St) (i : Sp) (l : List Sp) : St × Int :=
  if VB s = false ∨ ivB i = false ∨ rvB l = false ∨ outB i l = true then (noSt, 1)
  else if (combM 2 s (holeF i)).2 ≠ 0 then (noSt, (combM 2 s (holeF i)).2)
  else combM 0 (combM 2 s (holeF i)).1 (fromM l).1
theorem repl_bad {s : St} {i : Sp} {l : List Sp} (h : VB s = false ∨ ivB i = false ∨ rvB l = false ∨ outB i l = true) : replM s i l = (noSt, 1) := by
  unfold replM; rw [if_pos h]
theorem repl_hole {s : St} {i : Sp} {l : List Sp} {e : Int} (h1 : VB s = true) (h2 : ivB i = true) (h3 : rvB l = true) (h4 : outB i l = false) (he : (combM 2 s (holeF i)).2 = e) (h0 : e ≠ 0) : replM s i l = (noSt, e) := by
  unfold replM; rw [if_neg (by rw [h1, h2, h3, h4]; simp), if_pos (by rw [he]; exact h0), he]
theorem repl_fill {s : St} {i : Sp} {l : List Sp} {r : St} (h1 : VB s = true) (h2 : ivB i = true) (h3 : rvB l = true) (h4 : outB i l = false) (he : combM 2 s (holeF i) = (r, 0)) : replM s i l = combM 0 r (fromM l).1 := by
  unfold replM; rw [if_neg (by rw [h1, h2, h3, h4]; simp), if_neg (by rw [he]; simp), he]
theorem allV_rv {l : List Sp} (h : rvB l = true) : allV l = true := by
  rw [allV_iff]
  intro i hi
  have := canon_of_rvB h
  rw [ivB_iff]
  have hm := idx_mem hi
  have h1 := this.2.1 _ hm
  have h2 := canon_pos this.1 _ hm
  omega
theorem runsOf_rv {l : List Sp} (h : rvB l = true) : runsOfM l = (l, 0) := by
  have ha := allV_rv h
  unfold runsOfM
  rw [if_neg (by rw [ha]; simp), ← un_of ha (canon_of_rvB h).1 fun _ => rfl]
  unfold dnM
  rw [if_neg (by have := (canon_of_rvB h).2.2; omega)]
theorem has_none (x : Int) : hasP (1, []) x = false := by unfold hasP; rfl
theorem from_rv {l : List Sp} (h : rvB l = true) : (fromM l).2 = 0 ∧ ∀ x, hasS (fromM l).1 x = inL l x := by
  have hr := runsOf_rv h
  have hc := canon_of_rvB h
  unfold fromM
  rw [hr]
  simp only
  rw [if_neg (by simp)]
  by_cases h0 : l.length = 0
  · rw [if_pos h0]
    have e : l = [] := List.eq_nil_of_length_eq_zero h0
    subst e
    exact ⟨rfl, fun x => by rw [hasS_pure, has_none]; rfl⟩
  · rw [if_neg h0]
    refine ⟨rfl, fun x => ?_⟩
    have hlo : ∀ s ∈ l, firstFr l ≤ s.1 := fun s hs => canon_first hc.1 hs
    have hhi : ∀ s ∈ l, s.2 ≤ lastTo l := fun s hs => canon_last hc.1 hs
    unfold hasS
    simp only
    split
    · rename_i g
      rw [has_none, inL_low fun s hs => by have := hlo s hs; omega]
    · split
      · rfl
      · rename_i g1 g2
        rw [has_none, inL_high fun s hs => by have := hhi s hs; omega]
theorem from_one {i : Sp} (h : ivB i = true) : fromM [i] = (holeF i, 0) := by
  have hi := (ivB_iff _).1 h
  have hr : rvB [i] = true := rvB_of ⟨by omega, fun t ht => by simp at ht, trivial⟩ (fun s hs => by simp at hs; subst hs; omega) (by simp)
  unfold fromM
  rw [runsOf_rv hr]
  rfl
end Wk
end Go.Proofs.YtnjpceocnldlfaaGreat
