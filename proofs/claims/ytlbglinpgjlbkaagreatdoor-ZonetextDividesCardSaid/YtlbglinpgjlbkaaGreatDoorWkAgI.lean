import Derived.Test.YtlbglinpgjlbkaaGreatDoorWkInv
/- Drawn regions: which operations have been done; how a kept fact is kept. -/
namespace Go.Proofs.YtlbglinpgjlbkaaGreatDoor
open Go.RowKit

def ordB (ops : Array Oper) : Bool := (List.range ops.size).all fun j => match ops[j]? with | some o => o.after.all (fun e => decide (e.on < j)) | none => true
theorem all_listed {md : Region.Mode} {ops : Array Oper} {listed : Array Bool} (hsz : listed.size = ops.size) (hord : ordB ops = true) (hr : Region.ready md ops listed = []) : ∀ j, j < ops.size → listed.getD j false = true := by
 intro j
 induction j using Nat.strongRecOn with
 | _ j ih =>
  intro hj
  cases hl : listed.getD j false with
  | true => rfl
  | false =>
   exfalso
   have hlj : listed[j]? = some false := by
    rw [Array.getD_eq_getD_getElem?, Array.getElem?_eq_getElem (by omega)] at hl
    rw [Array.getElem?_eq_getElem (by omega)]
    simp at hl
    rw [hl]
   have hm : j ∈ Region.ready md ops listed := by
    refine mem_ready.2 ⟨by rw [Array.getD_eq_getD_getElem?, hlj]; rfl, ops[j], Array.getElem?_eq_getElem hj, fun e he _ => ?_⟩
    have ho := List.all_eq_true.1 hord j (List.mem_range.2 hj)
    rw [Array.getElem?_eq_getElem hj] at ho
    simp only [Array.all_eq_true_iff_forall_mem] at ho
    have hlt : e.on < j := of_decide_eq_true (ho e he)
    exact ih e.on hlt (by omega)
   rw [hr] at hm
   cases hm
theorem getD_self {l : Array Bool} {i : Nat} (h : i < l.size) : (l.setIfInBounds i true).getD i false = true := by
 rw [Array.getD_eq_getD_getElem?, Array.getElem?_setIfInBounds_self_of_lt h]; rfl
theorem getD_ne {l : Array Bool} {i j : Nat} (h : i ≠ j) : (l.setIfInBounds i true).getD j false = l.getD j false := by
 rw [Array.getD_eq_getD_getElem?, Array.getD_eq_getD_getElem?, Array.getElem?_setIfInBounds_ne h]
theorem gd {l : Array Bool} {i j : Nat} {b : Bool} (h : (l.setIfInBounds i true).getD j false = b) (hne : i ≠ j := by decide) : l.getD j false = b := by rwa [getD_ne hne] at h
theorem gx {l : Array Bool} {i j : Nat} {P : Prop} (f : Hid (l.getD j false = true → P)) (hne : i ≠ j := by decide) : Hid ((l.setIfInBounds i true).getD j false = true → P) := Lib.hid fun h => f.out (gd h hne)
theorem gx2 {l : Array Bool} {i j q : Nat} {b : Bool} {P : Prop} (f : Hid (l.getD j false = true → l.getD q false = b → P)) (hne : i ≠ j := by decide) (hne' : i ≠ q := by decide) : Hid ((l.setIfInBounds i true).getD j false = true → (l.setIfInBounds i true).getD q false = b → P) := Lib.hid fun h h' => f.out (gd h hne) (gd h' hne')
theorem gn {l : Array Bool} {i j q : Nat} {P : Prop} (f : Hid (l.getD j false = true → l.getD q false = true)) (hna : l.getD q false = false) (hne : i ≠ j := by decide) : Hid ((l.setIfInBounds i true).getD j false = true → P) := Lib.hid fun h => by have hq := f.out (gd h hne); rw [hna] at hq; cases hq
theorem gi {l : Array Bool} {i j q : Nat} (f : Hid (l.getD j false = true → l.getD q false = true)) (hne : i ≠ j := by decide) (hne' : i ≠ q := by decide) : Hid ((l.setIfInBounds i true).getD j false = true → (l.setIfInBounds i true).getD q false = true) := Lib.hid fun h => by rw [getD_ne hne']; exact f.out (gd h hne)
end Go.Proofs.YtlbglinpgjlbkaaGreatDoor
