/- The working time of the chapter's example: from one second of each day to another one. No conditions. -/
import Derived.Test.YtkfonfheakpcbaaGreatWkPlainB
import Derived.Test.YtkfonfheakpcbaaGreatWkPlainH
namespace Go.Proofs.YtkfonfheakpcbaaGreat
namespace Wk
def repC (c : List Int) (P q : Int) : Bool := c.length == 0 || ((((c.length : Int) * q) / P * P == (c.length : Int) * q) && (((c.length : Int) * q) / P % 2 == 0) && (List.range c.length).all (repOk c P q (((c.length : Int) * q) / P)))
def leastC (c : List Int) (P : Int) : Nat → Int → Int → Int
  | 0, _, best => best
  | n + 1, q, best => if q ≤ P / q then (if P % q = 0 then (if repC c P q then q else leastC c P n (q + 1) (if repC c P (P / q) then P / q else best)) else leastC c P n (q + 1) best) else best
theorem leastC_eq {l : List Sp} {P : Int} {c : List Int} (h : sortI (chg l P) = c) : ∀ (n : Nat) (q best : Int), leastLoop l P n q best = leastC c P n q best := by
  have hr : ∀ q, repB l P q = repC c P q := fun q => by unfold repB repC; rw [h]
  intro n
  induction n with
  | zero => intro q best; rfl
  | succ n ih => intro q best; simp only [leastLoop, leastC, hr, ih]
def awL : List Sp := [(32400, 61200)]
def awS : St := ⟨(86400, awL), (86400, awL), 0, 0, []⟩
theorem aw_sort : sortI (chg awL 86400) = [32400, 61200] := by
  have e : chg awL 86400 = [32400, 61200] := by decide +kernel
  rw [e]
  unfold sortI
  exact List.mergeSort_of_pairwise (by simp)
theorem aw_pv : pvB 86400 awL = true := by
  have e : leastM awL 86400 = 86400 := by
    unfold leastM
    rw [leastC_eq aw_sort]
    decide +kernel
  unfold pvB
  rw [e]
  decide +kernel
theorem aw_add : addM awS 57600 7200 = (122400, 0) := by decide +kernel
theorem aw_dl : DlM true awS 57600 7200 54000 = (126000, 0) := by decide +kernel
theorem aw_me : MeaM true awS 57600 122400 = (7200, 0) := by decide +kernel
end Wk
end Go.Proofs.YtkfonfheakpcbaaGreat
