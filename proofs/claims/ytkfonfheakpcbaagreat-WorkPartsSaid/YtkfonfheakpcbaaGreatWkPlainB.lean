/- Plain mathematics of periodic lists. No conditions. -/
import Derived.Test.YtkfonfheakpcbaaGreatWkPlainA
namespace Go.Proofs.YtkfonfheakpcbaaGreat
namespace Wk
/-! the changes of a periodic list -/
def lastTo (l : List Sp) : Int := (l.getD (l.length - 1) (0, 0)).2
def firstFr (l : List Sp) : Int := (l.getD 0 (0, 0)).1
def stepC (f t P : Int) (s : Sp) : List Int := (if 0 < s.1 ∨ t < P then [s.1] else []) ++ (if s.2 < P then [s.2] else if 0 < f then [0] else [])
def chg (l : List Sp) (P : Int) : List Int := l.flatMap (stepC (firstFr l) (lastTo l) P)
def sortI (l : List Int) : List Int := l.mergeSort (fun x y => decide (x ≤ y))
def wrapC (P y : Int) : Int := if P ≤ y then y - P else y
def repOk (c : List Int) (P q k : Int) (i : Nat) : Bool := c.getD (((i : Int) + k) % (c.length : Int)).toNat 0 == wrapC P (c.getD i 0 + q)
/-- periodic.repeats -/
def repB (l : List Sp) (P q : Int) : Bool :=
  let c := sortI (chg l P)
  c.length == 0 || ((((c.length : Int) * q) / P * P == (c.length : Int) * q) && (((c.length : Int) * q) / P % 2 == 0) && (List.range c.length).all (repOk c P q (((c.length : Int) * q) / P)))

theorem stepC_len (f t P : Int) (s : Sp) : (stepC f t P s).length ≤ 2 := by
  unfold stepC
  rw [List.length_append]
  have h1 : (if 0 < s.1 ∨ t < P then [s.1] else []).length ≤ 1 := by split <;> simp
  have h2 : (if s.2 < P then [s.2] else if 0 < f then [0] else []).length ≤ 1 := by
    split
    · simp
    · split <;> simp
  omega
theorem stepC_mem {f t P : Int} {s : Sp} {x : Int} (hx : x ∈ stepC f t P s) : x = s.1 ∨ x = s.2 ∨ x = 0 := by
  unfold stepC at hx
  simp only [List.mem_append] at hx
  rcases hx with hx | hx
  · split at hx <;> simp at hx; exact Or.inl hx
  · split at hx
    · simp at hx; exact Or.inr (Or.inl hx)
    · split at hx <;> simp at hx; exact Or.inr (Or.inr hx)
theorem chg_take_succ {l : List Sp} {k : Nat} {x y : Int} (f t P : Int) (h : l.getD k (0, 0) = (x, y)) (hk : k < l.length) :
    (l.take (k + 1)).flatMap (stepC f t P) = (l.take k).flatMap (stepC f t P) ++ stepC f t P (x, y) := by
  rw [getD_take_succ h hk, List.flatMap_append]; simp
theorem chg_len (l : List Sp) (f t P : Int) : (l.flatMap (stepC f t P)).length ≤ 2 * l.length := by
  induction l with
  | nil => simp
  | cons s r ih => have := stepC_len f t P s; simp only [List.flatMap_cons, List.length_append, List.length_cons]; omega

def chgT (l : List Sp) (P : Int) (k : Nat) : List Int := (l.take k).flatMap (stepC (firstFr l) (lastTo l) P)
theorem chgT_succ {l : List Sp} {P : Int} {k : Nat} {x y : Int} (h : l.getD k (0, 0) = (x, y)) (hk : k < l.length) : chgT l P (k + 1) = chgT l P k ++ stepC (firstFr l) (lastTo l) P (x, y) := chg_take_succ _ _ _ h hk
theorem chgT_len (l : List Sp) (P : Int) (k : Nat) : (chgT l P k).length ≤ 2 * k := by
  have := chg_len (l.take k) (firstFr l) (lastTo l) P
  have := List.length_take_le k l
  unfold chgT; omega
theorem chgT_full (l : List Sp) (P : Int) (k : Nat) (h : l.length ≤ k) : chgT l P k = chg l P := by
  unfold chgT chg; rw [List.take_of_length_le h]
theorem sortI_len (l : List Int) : (sortI l).length = l.length := List.length_mergeSort _
theorem sortI_mem (l : List Int) (x : Int) : x ∈ sortI l ↔ x ∈ l := List.mem_mergeSort
theorem chg_bd {l : List Sp} {P x : Int} (hP : 1 ≤ P) (hi : inside P l) (hb : Bnd l) (h : x ∈ chg l P) : 0 ≤ x ∧ x ≤ P := by
  unfold chg at h
  rw [List.mem_flatMap] at h
  obtain ⟨s, hs, hx⟩ := h
  have h1 := hi s hs
  have h2 := hb s hs
  rcases stepC_mem hx with rfl | rfl | rfl <;> omega
theorem repB_zero {l : List Sp} {P q : Int} {C : List Int} (hC : sortI (chg l P) = C) (h : C.length = 0) : repB l P q = true := by
  simp [repB, hC, h]
theorem repB_no1 {l : List Sp} {P q : Int} {C : List Int} (hC : sortI (chg l P) = C) (h0 : 0 < C.length) (h : ((C.length : Int) * q / P * P != (C.length : Int) * q) = true) : repB l P q = false := by
  have h1 : (C.length == 0) = false := by simp; intro e; simp [e] at h0
  have h2 : ((C.length : Int) * q / P * P == (C.length : Int) * q) = false := by simpa using h
  simp only [repB, hC, h1, h2, Bool.false_and, Bool.or_false]
theorem repB_no2 {l : List Sp} {P q : Int} {C : List Int} (hC : sortI (chg l P) = C) (h0 : 0 < C.length) (h : ((C.length : Int) * q / P % 2 != 0) = true) : repB l P q = false := by
  have h1 : (C.length == 0) = false := by simp; intro e; simp [e] at h0
  have h2 : ((C.length : Int) * q / P % 2 == 0) = false := by simpa using h
  simp only [repB, hC, h1, h2, Bool.and_false, Bool.false_and, Bool.or_false]
theorem repB_no3 {l : List Sp} {P q : Int} {C : List Int} (hC : sortI (chg l P) = C) {i : Nat} (hi : i < C.length) (h : repOk C P q ((C.length : Int) * q / P) i = false) : repB l P q = false := by
  have h1 : (C.length == 0) = false := by simp; intro e; simp [e] at hi
  have h2 : (List.range C.length).all (repOk C P q ((C.length : Int) * q / P)) = false := by
    rw [List.all_eq_false]; exact ⟨i, by simpa using hi, by simp [h]⟩
  simp only [repB, hC, h1, h2, Bool.and_false, Bool.or_false]
theorem repB_yes {l : List Sp} {P q : Int} {C : List Int} (hC : sortI (chg l P) = C) (h1 : ((C.length : Int) * q / P * P != (C.length : Int) * q) = false) (h2 : ((C.length : Int) * q / P % 2 != 0) = false)
    (h : ∀ i, i < C.length → repOk C P q ((C.length : Int) * q / P) i = true) : repB l P q = true := by
  have e1 : ((C.length : Int) * q / P * P == (C.length : Int) * q) = true := by simpa using h1
  have e2 : ((C.length : Int) * q / P % 2 == 0) = true := by simpa using h2
  have e3 : (List.range C.length).all (repOk C P q ((C.length : Int) * q / P)) = true := by
    rw [List.all_eq_true]; intro i hi; exact h i (by simpa using hi)
  simp only [repB, hC, e1, e2, e3, Bool.and_true, Bool.or_true]
theorem prod_bd {m : Nat} {q P : Int} (hm : m ≤ 4000) (hq1 : 1 ≤ q) (hq2 : q ≤ P) (hP2 : P ≤ 12622780800) :
    0 ≤ (m : Int) * q ∧ (m : Int) * q ≤ 50491123200000 ∧ 0 ≤ (m : Int) * q / P ∧ (m : Int) * q / P ≤ 4000 ∧ 0 ≤ (m : Int) * q / P * P ∧ (m : Int) * q / P * P ≤ (m : Int) * q := by
  have h0 : 0 ≤ (m : Int) * q := Int.mul_nonneg (by omega) (by omega)
  have h1 : (m : Int) * q ≤ 4000 * P := Int.mul_le_mul (by omega) hq2 (by omega) (by omega)
  have h2 : 0 ≤ (m : Int) * q / P := Int.ediv_nonneg h0 (by omega)
  have h3 : (m : Int) * q / P ≤ 4000 := by
    have := Int.ediv_le_ediv (c := P) (by omega) h1
    rwa [Int.mul_ediv_cancel _ (by omega : P ≠ 0)] at this
  have h4 := Int.mul_nonneg h2 (by omega : 0 ≤ P)
  have h5 := Int.ediv_mul_le ((m : Int) * q) (by omega : P ≠ 0)
  omega
/-! periodic.least -/
def leastLoop (l : List Sp) (P : Int) : Nat → Int → Int → Int
  | 0, _, best => best
  | n + 1, q, best => if q ≤ P / q then (if P % q = 0 then (if repB l P q then q else leastLoop l P n (q + 1) (if repB l P (P / q) then P / q else best)) else leastLoop l P n (q + 1) best) else best
def leastM (l : List Sp) (P : Int) : Int := leastLoop l P P.toNat 1 P
def cutM (l : List Sp) (best : Int) : List Sp := (l.filter fun s => decide (s.1 < best)).map fun s => (s.1, min s.2 best)
def cutT (l : List Sp) (best : Int) (k : Nat) : List Sp := cutM (l.take k) best
theorem cutT_succ {l : List Sp} {k : Nat} {x y : Int} (best : Int) (h : l.getD k (0, 0) = (x, y)) (hk : k < l.length) : cutT l best (k + 1) = cutT l best k ++ (if x < best then [(x, min y best)] else []) := by
  unfold cutT cutM
  rw [getD_take_succ h hk, List.filter_append, List.map_append]
  congr 1
  by_cases hx : x < best <;> simp [hx]
theorem cutT_len (l : List Sp) (best : Int) (k : Nat) : (cutT l best k).length ≤ k := by
  unfold cutT cutM
  rw [List.length_map]
  have := List.length_filter_le (fun s : Sp => decide (s.1 < best)) (l.take k)
  have := List.length_take_le k l
  omega
theorem cutT_full (l : List Sp) (best : Int) (k : Nat) (h : l.length ≤ k) : cutT l best k = cutM l best := by
  unfold cutT; rw [List.take_of_length_le h]
theorem leastLoop_stop {l : List Sp} {P q best : Int} {n : Nat} (h : ¬ q ≤ P / q) : leastLoop l P n q best = best := by
  cases n with
  | zero => rfl
  | succ n => simp only [leastLoop, if_neg h]
theorem leastLoop_skip {l : List Sp} {P q best : Int} {n : Nat} (h : q ≤ P / q) (h1 : ¬ P % q = 0) : leastLoop l P (n + 1) q best = leastLoop l P n (q + 1) best := by
  simp only [leastLoop, if_pos h, if_neg h1]
theorem leastLoop_hit {l : List Sp} {P q best : Int} {n : Nat} (h : q ≤ P / q) (h1 : P % q = 0) (h2 : repB l P q = true) : leastLoop l P (n + 1) q best = q := by
  simp only [leastLoop, if_pos h, if_pos h1, if_pos h2]
theorem leastLoop_far {l : List Sp} {P q best : Int} {n : Nat} (h : q ≤ P / q) (h1 : P % q = 0) (h2 : repB l P q = false) (h3 : repB l P (P / q) = true) : leastLoop l P (n + 1) q best = leastLoop l P n (q + 1) (P / q) := by
  simp only [leastLoop, if_pos h, if_pos h1, h2, h3, if_true, Bool.false_eq_true, if_false]
theorem leastLoop_near {l : List Sp} {P q best : Int} {n : Nat} (h : q ≤ P / q) (h1 : P % q = 0) (h2 : repB l P q = false) (h3 : repB l P (P / q) = false) : leastLoop l P (n + 1) q best = leastLoop l P n (q + 1) best := by
  simp only [leastLoop, if_pos h, if_pos h1, h2, h3, Bool.false_eq_true, if_false]
/-- periodic.inside, periodic.Valid -/
def insB (l : List Sp) (P : Int) : Bool := rvB l && (l.length == 0 || (decide (0 ≤ firstFr l) && decide (lastTo l ≤ P)))
def pvB (P : Int) (l : List Sp) : Bool := decide (1 ≤ P) && decide (P ≤ 12622780800) && insB l P && (leastM l P == P)
theorem inside_of_insB {l : List Sp} {P : Int} (h : insB l P = true) : rvB l = true ∧ inside P l := by
  unfold insB at h
  rw [Bool.and_eq_true] at h
  refine ⟨h.1, ?_⟩
  have hc := (canon_of_rvB h.1).1
  intro s hs
  obtain ⟨i, hi, e⟩ := List.getElem_of_mem hs
  have hg : l.getD i (0, 0) = s := by rw [List.getD_eq_getElem?_getD, List.getElem?_eq_getElem hi]; exact e
  have h2 := h.2
  have hne : (l.length == 0) = false := by simp; intro e; simp [e] at hi
  rw [hne, Bool.false_or, Bool.and_eq_true, decide_eq_true_eq, decide_eq_true_eq] at h2
  unfold firstFr lastTo at h2
  have hp := canon_pos hc
  constructor
  · by_cases h0 : i = 0
    · rw [h0] at hg; rw [hg] at h2; exact h2.1
    · have := (canon_lt hc (i := 0) (j := i) (by omega) hi).1
      have h3 := hp (l.getD 0 (0, 0)) (by rw [List.getD_eq_getElem?_getD, List.getElem?_eq_getElem (by omega : 0 < l.length)]; exact List.getElem_mem _)
      rw [hg] at this
      omega
  · by_cases h0 : i = l.length - 1
    · rw [← h0, hg] at h2; exact h2.2
    · have := (canon_lt hc (i := i) (j := l.length - 1) (by omega) (by omega)).2
      rw [hg] at this
      omega
end Wk
end Go.Proofs.YtkfonfheakpcbaaGreat
