/- Plain mathematics of runs, periodic sets and working time. No conditions. -/
namespace Go.Proofs.YtmfdnbfjdhlonaaGreatDoor
namespace Wk

abbrev Sp := Int × Int

def lineB (x : Int) : Bool := decide (-4398046511104 ≤ x) && decide (x ≤ 4398046511104)
def ivB (s : Sp) : Bool := (lineB s.1 && lineB s.2) && decide (s.1 < s.2)
def okAt (l : List Sp) (i : Nat) : Bool :=
 ivB (l.getD i (0, 0)) && (i == 0 || decide ((l.getD (i - 1) (0, 0)).2 < (l.getD i (0, 0)).1))
def rvB (l : List Sp) : Bool := decide (l.length ≤ 2000) && (List.range l.length).all (okAt l)

theorem lineB_iff (x : Int) : lineB x = true ↔ -4398046511104 ≤ x ∧ x ≤ 4398046511104 := by
 simp [lineB]
theorem ivB_iff (s : Sp) : ivB s = true ↔ -4398046511104 ≤ s.1 ∧ s.1 < s.2 ∧ s.2 ≤ 4398046511104 := by
 simp [ivB, lineB]; omega

def Canon : List Sp → Prop
 | [] => True
 | s :: r => s.1 < s.2 ∧ (∀ t ∈ r, s.2 < t.1) ∧ Canon r

theorem rvB_iff (l : List Sp) : rvB l = true ↔ l.length ≤ 2000 ∧ ∀ i, i < l.length → okAt l i = true := by
 simp [rvB]

theorem rvB_false_of {l : List Sp} {i : Nat} (h : i < l.length) (hk : okAt l i = false) : rvB l = false := by
 cases hr : rvB l with
 | false => rfl
 | true => rw [rvB_iff] at hr; rw [hr.2 i h] at hk; cases hk

theorem okAt_mk {l : List Sp} {k : Nat} {x y : Int} (h : l.getD k (0, 0) = (x, y)) (hi : ivB (x, y) = true) (hz : k = 0 ∨ (l.getD (k - 1) (0, 0)).2 < x) : okAt l k = true := by
 unfold okAt
 rw [h, hi]
 rcases hz with rfl | hz
 ·simp
 ·simp only [decide_eq_true hz, Bool.or_true, Bool.and_true]
theorem okAt_bad {l : List Sp} {k : Nat} {x y : Int} (h : l.getD k (0, 0) = (x, y)) (hz : ivB (x, y) = false ∨ (0 < k ∧ x ≤ (l.getD (k - 1) (0, 0)).2)) : okAt l k = false := by
 unfold okAt
 rw [h]
 rcases hz with hz | ⟨h0, hz⟩
 ·simp [hz]
 ·have e1 : (k == 0) = false := by simp; omega
  have e2 : decide ((l.getD (k - 1) (0, 0)).2 < x) = false := by simp only [decide_eq_false_iff_not]; omega
  simp only [e1, e2, Bool.or_false, Bool.and_false]

def Bnd (l : List Sp) : Prop := ∀ s ∈ l, -4398046511104 ≤ s.1 ∧ s.1 < s.2 ∧ s.2 ≤ 4398046511104

theorem canon_of_ok : ∀ (l : List Sp), (∀ i, i < l.length → okAt l i = true) → Canon l ∧ Bnd l
 | [], _ => ⟨trivial, fun _ h => by cases h⟩
 | [s], h => by
  have h0 := h 0 (by simp)
  simp only [okAt, List.getD_cons_zero, Bool.and_eq_true] at h0
  have := (ivB_iff s).1 h0.1
  refine ⟨⟨this.2.1, (fun _ h => by cases h), trivial⟩, ?_⟩
  intro t ht; simp at ht; subst ht; exact this
 | s :: t :: r, h => by
  have h0 := h 0 (by simp)
  have h1 := h 1 (by simp)
  simp only [okAt, List.getD_cons_zero, Bool.and_eq_true] at h0
  have hs := (ivB_iff s).1 h0.1
  have ih := canon_of_ok (t :: r) (fun i hi => by
   have := h (i + 1) (by simpa using hi)
   cases i with
   | zero =>
    simp only [okAt, List.getD_cons_succ, List.getD_cons_zero, Bool.and_eq_true] at this ⊢
    exact ⟨this.1, by simp⟩
   | succ j =>
    simp only [okAt, List.getD_cons_succ, Bool.and_eq_true, Nat.add_sub_cancel] at this ⊢
    refine ⟨this.1, ?_⟩
    have h2 := this.2
    simp at h2
    simp [h2])
  simp only [okAt, List.getD_cons_succ, List.getD_cons_zero, Bool.and_eq_true] at h1
  have hst : s.2 < t.1 := by simpa using h1.2
  refine ⟨⟨hs.2.1, ?_, ih.1⟩, ?_⟩
  ·intro u hu
   simp at hu
   rcases hu with rfl | hu
   ·exact hst
   ·have h3 := ih.1.2.1 u hu
    have h4 := ih.1.1
    omega
  ·intro u hu
   simp at hu
   rcases hu with rfl | hu | hu
   ·exact hs
   ·subst hu; exact ih.2 _ (by simp)
   ·exact ih.2 u (by simp [hu])

theorem canon_of_rvB {l : List Sp} (h : rvB l = true) : Canon l ∧ Bnd l ∧ l.length ≤ 2000 := by
 rw [rvB_iff] at h
 have := canon_of_ok l h.2
 exact ⟨this.1, this.2, h.1⟩

def inL : List Sp → Int → Bool
 | [], _ => false
 | s :: r, x => (decide (s.1 ≤ x) && decide (x < s.2)) || inL r x
theorem canon_pos : ∀ {l : List Sp}, Canon l → ∀ s ∈ l, s.1 < s.2
 | [], _, _, h => by cases h
 | s :: r, hc, t, ht => by
  simp at ht
  rcases ht with rfl | ht
  ·exact hc.1
  ·exact canon_pos hc.2.2 t ht

theorem getD_take_succ {l : List Sp} {k : Nat} {x y : Int} (h : l.getD k (0, 0) = (x, y)) (hk : k < l.length) : l.take (k + 1) = l.take k ++ [(x, y)] := by
 rw [List.take_succ_eq_append_getElem hk]
 rw [List.getD_eq_getElem?_getD, List.getElem?_eq_getElem hk] at h
 simp at h
 rw [h]
theorem mem_of_getD {l : List Sp} {k : Nat} {x y : Int} (h : l.getD k (0, 0) = (x, y)) (hk : k < l.length) : (x, y) ∈ l := by
 rw [List.getD_eq_getElem?_getD, List.getElem?_eq_getElem hk] at h
 simp at h
 rw [← h]; exact List.getElem_mem hk
theorem Bnd.take {l : List Sp} (h : Bnd l) (k : Nat) : Bnd (l.take k) := fun s hs => h s (List.mem_of_mem_take hs)

theorem inL_low : ∀ {l : List Sp} {x : Int}, (∀ s ∈ l, x < s.1) → inL l x = false
 | [], _, _ => rfl
 | s :: r, x, h => by
  have h1 := h s (by simp)
  have h2 := inL_low (l := r) (x := x) (fun t ht => h t (by simp [ht]))
  simp only [inL, h2, Bool.or_false]; simp; intro; omega
theorem canon_lt : ∀ {l : List Sp} {i j : Nat}, Canon l → i < j → j < l.length → (l.getD i (0, 0)).2 < (l.getD j (0, 0)).1 ∧ (l.getD i (0, 0)).2 < (l.getD j (0, 0)).2
 | [], i, j, _, _, h => by simp at h
 | s :: r, 0, j + 1, hc, _, h => by
  have hj : j < r.length := by simpa using h
  have hm : r.getD j (0, 0) ∈ r := by
   rw [List.getD_eq_getElem?_getD, List.getElem?_eq_getElem hj]; exact List.getElem_mem hj
  have h1 := hc.2.1 _ hm
  have h2 := canon_pos hc.2.2 _ hm
  simp only [List.getD_cons_zero, List.getD_cons_succ]
  omega
 | s :: r, i + 1, j + 1, hc, hij, h => by
  simp only [List.getD_cons_succ]
  exact canon_lt hc.2.2 (by omega) (by simpa using h)
 | _ :: _, _, 0, _, hij, _ => by omega

def IsSrch (l : List Sp) (x : Int) (i : Nat) : Prop := i ≤ l.length ∧ (∀ j, j < i → (l.getD j (0, 0)).2 ≤ x) ∧ (i < l.length → x < (l.getD i (0, 0)).2)

theorem inL_srch : ∀ {l : List Sp} {x : Int} {i : Nat}, Canon l → IsSrch l x i → inL l x = (decide (i < l.length) && decide ((l.getD i (0, 0)).1 ≤ x))
 | [], x, i, _, h => by simp [inL]
 | s :: r, x, 0, hc, h => by
  have h1 : x < s.2 := h.2.2 (by simp)
  have h2 : inL r x = false := inL_low (fun t ht => by have := hc.2.1 t ht; omega)
  simp [inL, h1, h2]
 | s :: r, x, i + 1, hc, h => by
  have h1 : s.2 ≤ x := h.2.1 0 (by omega)
  have ih := inL_srch (l := r) (x := x) (i := i) hc.2.2 ⟨by have := h.1; simp at this; omega, fun j hj => by have := h.2.1 (j + 1) (by omega); simpa using this, fun hi => by have := h.2.2 (by simpa using hi); simpa using this⟩
  have h2 : (decide (s.1 ≤ x) && decide (x < s.2)) = false := by simp; omega
  simp only [inL, h2, Bool.false_or, ih, List.length_cons, List.getD_cons_succ]
  congr 1
  simp

/-! A step function: it goes up by one exactly at members. -/
/-! ## periodic sets -/
abbrev Per := Int × List Sp
def inside (P : Int) (l : List Sp) : Prop := ∀ s ∈ l, 0 ≤ s.1 ∧ s.2 ≤ P
structure GoodP (p : Per) : Prop where
 pos : 1 ≤ p.1
 canon : Canon p.2
 ins : inside p.1 p.2
def hasP (p : Per) (x : Int) : Bool := inL p.2 (x - x / p.1 * p.1)
theorem div_uniq {x k P : Int} (hP : 1 ≤ P) (h0 : 0 ≤ x - k * P) (h1 : x - k * P < P) : x / P = k := by
 have e : x = (x - k * P) + k * P := by omega
 rw [e, Int.add_mul_ediv_right _ _ (by omega), Int.ediv_eq_zero_of_lt h0 h1]; omega
theorem mod_lo (x : Int) {P : Int} (hP : 1 ≤ P) : 0 ≤ x - x / P * P ∧ x - x / P * P < P := by
 have h1 := Int.emod_nonneg x (b := P) (by omega)
 have h2 := Int.emod_lt_of_pos x (b := P) (by omega)
 have h3 := Int.mul_ediv_add_emod x P
 have h4 : P * (x / P) = x / P * P := Int.mul_comm _ _
 omega

/-! ## sets -/
structure St where
 lf : Per
 rt : Per
 fr : Int
 to : Int
 l : List Sp

structure GoodS (s : St) : Prop where
 lf : GoodP s.lf
 rt : GoodP s.rt
 ft : s.fr ≤ s.to
 canon : Canon s.l
 ins : ∀ x ∈ s.l, s.fr ≤ x.1 ∧ x.2 ≤ s.to

def hasS (s : St) (x : Int) : Bool := if x < s.fr then hasP s.lf x else if x < s.to then inL s.l x else hasP s.rt x
end Wk
end Go.Proofs.YtmfdnbfjdhlonaaGreatDoor
namespace Go.Proofs.YtmfdnbfjdhlonaaGreatDoor
namespace Wk
/-! the changes of a periodic list -/
def lastTo (l : List Sp) : Int := (l.getD (l.length - 1) (0, 0)).2
def firstFr (l : List Sp) : Int := (l.getD 0 (0, 0)).1
def stepC (f t P : Int) (s : Sp) : List Int := (if 0 < s.1 ∨ t < P then [s.1] else []) ++ (if s.2 < P then [s.2] else if 0 < f then [0] else [])
def chg (l : List Sp) (P : Int) : List Int := l.flatMap (stepC (firstFr l) (lastTo l) P)
def sortI (l : List Int) : List Int := l.mergeSort (fun x y => decide (x ≤ y))
def wrapC (P y : Int) : Int := if P ≤ y then y - P else y
def repOk (c : List Int) (P q k : Int) (i : Nat) : Bool := c.getD (((i : Int) + k) % (c.length : Int)).toNat 0 == wrapC P (c.getD i 0 + q)
def repB (l : List Sp) (P q : Int) : Bool :=
 let c := sortI (chg l P)
 c.length == 0 || ((((c.length : Int) * q) / P * P == (c.length : Int) * q) && (((c.length : Int) * q) / P % 2 == 0) && (List.range c.length).all (repOk c P q (((c.length : Int) * q) / P)))

theorem stepC_len (f t P : Int) (s : Sp) : (stepC f t P s).length ≤ 2 := by
 unfold stepC
 rw [List.length_append]
 have h1 : (if 0 < s.1 ∨ t < P then [s.1] else []).length ≤ 1 := by split <;> simp
 have h2 : (if s.2 < P then [s.2] else if 0 < f then [0] else []).length ≤ 1 := by
  split
  ·simp
  ·split <;> simp
 omega
theorem stepC_mem {f t P : Int} {s : Sp} {x : Int} (hx : x ∈ stepC f t P s) : x = s.1 ∨ x = s.2 ∨ x = 0 := by
 unfold stepC at hx
 simp only [List.mem_append] at hx
 rcases hx with hx | hx
 ·split at hx <;> simp at hx; exact Or.inl hx
 ·split at hx
  ·simp at hx; exact Or.inr (Or.inl hx)
  ·split at hx <;> simp at hx; exact Or.inr (Or.inr hx)
theorem chg_take_succ {l : List Sp} {k : Nat} {x y : Int} (f t P : Int) (h : l.getD k (0, 0) = (x, y)) (hk : k < l.length) :
  (l.take (k + 1)).flatMap (stepC f t P) = (l.take k).flatMap (stepC f t P) ++ stepC f t P (x, y) := by
 rw [getD_take_succ h hk, List.flatMap_append]; simp
theorem chg_len (l : List Sp) (f t P : Int) : (l.flatMap (stepC f t P)).length ≤ 2 * l.length := by
 induction l with
 | nil => simp
 | cons s r ih => have := stepC_len f t P s; simp only [List.flatMap_cons, List.length_append, List.length_cons]; omega

def chgT (l : List Sp) (P : Int) (k : Nat) : List Int := (l.take k).flatMap (stepC (firstFr l) (lastTo l) P)
theorem chgT_succ {l : List Sp} {P : Int} {k : Nat} {x y : Int} (h : l.getD k (0, 0) = (x, y)) (hk : k < l.length) : chgT l P (k + 1) = chgT l P k ++ stepC (firstFr l) (lastTo l) P (x, y) := chg_take_succ _ _ _ h hk
theorem chgT_len (l : List Sp) (P : Int) (k : Nat) : (chgT l P k).length ≤ 2 * k := by
 have := chg_len (l.take k) (firstFr l) (lastTo l) P
 have := List.length_take_le k l
 unfold chgT; omega
theorem chgT_full (l : List Sp) (P : Int) (k : Nat) (h : l.length ≤ k) : chgT l P k = chg l P := by
 unfold chgT chg; rw [List.take_of_length_le h]
theorem sortI_len (l : List Int) : (sortI l).length = l.length := List.length_mergeSort _
theorem sortI_mem (l : List Int) (x : Int) : x ∈ sortI l ↔ x ∈ l := List.mem_mergeSort
theorem chg_bd {l : List Sp} {P x : Int} (hP : 1 ≤ P) (hi : inside P l) (hb : Bnd l) (h : x ∈ chg l P) : 0 ≤ x ∧ x ≤ P := by
 unfold chg at h
 rw [List.mem_flatMap] at h
 obtain ⟨s, hs, hx⟩ := h
 have h1 := hi s hs
 have h2 := hb s hs
 rcases stepC_mem hx with rfl | rfl | rfl <;> omega
theorem repB_zero {l : List Sp} {P q : Int} {C : List Int} (hC : sortI (chg l P) = C) (h : C.length = 0) : repB l P q = true := by
 simp [repB, hC, h]
theorem repB_no1 {l : List Sp} {P q : Int} {C : List Int} (hC : sortI (chg l P) = C) (h0 : 0 < C.length) (h : ((C.length : Int) * q / P * P != (C.length : Int) * q) = true) : repB l P q = false := by
 have h1 : (C.length == 0) = false := by simp; intro e; simp [e] at h0
 have h2 : ((C.length : Int) * q / P * P == (C.length : Int) * q) = false := by simpa using h
 simp only [repB, hC, h1, h2, Bool.false_and, Bool.or_false]
theorem repB_no2 {l : List Sp} {P q : Int} {C : List Int} (hC : sortI (chg l P) = C) (h0 : 0 < C.length) (h : ((C.length : Int) * q / P % 2 != 0) = true) : repB l P q = false := by
 have h1 : (C.length == 0) = false := by simp; intro e; simp [e] at h0
 have h2 : ((C.length : Int) * q / P % 2 == 0) = false := by simpa using h
 simp only [repB, hC, h1, h2, Bool.and_false, Bool.false_and, Bool.or_false]
theorem repB_no3 {l : List Sp} {P q : Int} {C : List Int} (hC : sortI (chg l P) = C) {i : Nat} (hi : i < C.length) (h : repOk C P q ((C.length : Int) * q / P) i = false) : repB l P q = false := by
 have h1 : (C.length == 0) = false := by simp; intro e; simp [e] at hi
 have h2 : (List.range C.length).all (repOk C P q ((C.length : Int) * q / P)) = false := by
  rw [List.all_eq_false]; exact ⟨i, by simpa using hi, by simp [h]⟩
 simp only [repB, hC, h1, h2, Bool.and_false, Bool.or_false]
theorem repB_yes {l : List Sp} {P q : Int} {C : List Int} (hC : sortI (chg l P) = C) (h1 : ((C.length : Int) * q / P * P != (C.length : Int) * q) = false) (h2 : ((C.length : Int) * q / P % 2 != 0) = false)
  (h : ∀ i, i < C.length → repOk C P q ((C.length : Int) * q / P) i = true) : repB l P q = true := by
 have e1 : ((C.length : Int) * q / P * P == (C.length : Int) * q) = true := by simpa using h1
 have e2 : ((C.length : Int) * q / P % 2 == 0) = true := by simpa using h2
 have e3 : (List.range C.length).all (repOk C P q ((C.length : Int) * q / P)) = true := by
  rw [List.all_eq_true]; intro i hi; exact h i (by simpa using hi)
 simp only [repB, hC, e1, e2, e3, Bool.and_true, Bool.or_true]
/-! periodic.least -/
def leastLoop (l : List Sp) (P : Int) : Nat → Int → Int → Int
 | 0, _, best => best
 | n + 1, q, best => if q ≤ P / q then (if P % q = 0 then (if repB l P q then q else leastLoop l P n (q + 1) (if repB l P (P / q) then P / q else best)) else leastLoop l P n (q + 1) best) else best
def leastM (l : List Sp) (P : Int) : Int := leastLoop l P P.toNat 1 P
def cutM (l : List Sp) (best : Int) : List Sp := (l.filter fun s => decide (s.1 < best)).map fun s => (s.1, min s.2 best)
def cutT (l : List Sp) (best : Int) (k : Nat) : List Sp := cutM (l.take k) best
theorem cutT_succ {l : List Sp} {k : Nat} {x y : Int} (best : Int) (h : l.getD k (0, 0) = (x, y)) (hk : k < l.length) : cutT l best (k + 1) = cutT l best k ++ (if x < best then [(x, min y best)] else []) := by
 unfold cutT cutM
 rw [getD_take_succ h hk, List.filter_append, List.map_append]
 congr 1
 by_cases hx : x < best <;> simp [hx]
theorem cutT_len (l : List Sp) (best : Int) (k : Nat) : (cutT l best k).length ≤ k := by
 unfold cutT cutM
 rw [List.length_map]
 have := List.length_filter_le (fun s : Sp => decide (s.1 < best)) (l.take k)
 have := List.length_take_le k l
 omega
theorem cutT_full (l : List Sp) (best : Int) (k : Nat) (h : l.length ≤ k) : cutT l best k = cutM l best := by
 unfold cutT; rw [List.take_of_length_le h]
theorem leastLoop_stop {l : List Sp} {P q best : Int} {n : Nat} (h : ¬ q ≤ P / q) : leastLoop l P n q best = best := by
 cases n with
 | zero => rfl
 | succ n => simp only [leastLoop, if_neg h]
theorem leastLoop_skip {l : List Sp} {P q best : Int} {n : Nat} (h : q ≤ P / q) (h1 : ¬ P % q = 0) : leastLoop l P (n + 1) q best = leastLoop l P n (q + 1) best := by
 simp only [leastLoop, if_pos h, if_neg h1]
theorem leastLoop_hit {l : List Sp} {P q best : Int} {n : Nat} (h : q ≤ P / q) (h1 : P % q = 0) (h2 : repB l P q = true) : leastLoop l P (n + 1) q best = q := by
 simp only [leastLoop, if_pos h, if_pos h1, if_pos h2]
theorem leastLoop_far {l : List Sp} {P q best : Int} {n : Nat} (h : q ≤ P / q) (h1 : P % q = 0) (h2 : repB l P q = false) (h3 : repB l P (P / q) = true) : leastLoop l P (n + 1) q best = leastLoop l P n (q + 1) (P / q) := by
 simp only [leastLoop, if_pos h, if_pos h1, h2, h3, if_true, Bool.false_eq_true, if_false]
theorem leastLoop_near {l : List Sp} {P q best : Int} {n : Nat} (h : q ≤ P / q) (h1 : P % q = 0) (h2 : repB l P q = false) (h3 : repB l P (P / q) = false) : leastLoop l P (n + 1) q best = leastLoop l P n (q + 1) best := by
 simp only [leastLoop, if_pos h, if_pos h1, h2, h3, Bool.false_eq_true, if_false]
def insB (l : List Sp) (P : Int) : Bool := rvB l && (l.length == 0 || (decide (0 ≤ firstFr l) && decide (lastTo l ≤ P)))
def pvB (P : Int) (l : List Sp) : Bool := decide (1 ≤ P) && decide (P ≤ 12622780800) && insB l P && (leastM l P == P)
theorem inside_of_insB {l : List Sp} {P : Int} (h : insB l P = true) : rvB l = true ∧ inside P l := by
 unfold insB at h
 rw [Bool.and_eq_true] at h
 refine ⟨h.1, ?_⟩
 have hc := (canon_of_rvB h.1).1
 intro s hs
 obtain ⟨i, hi, e⟩ := List.getElem_of_mem hs
 have hg : l.getD i (0, 0) = s := by rw [List.getD_eq_getElem?_getD, List.getElem?_eq_getElem hi]; exact e
 have h2 := h.2
 have hne : (l.length == 0) = false := by simp; intro e; simp [e] at hi
 rw [hne, Bool.false_or, Bool.and_eq_true, decide_eq_true_eq, decide_eq_true_eq] at h2
 unfold firstFr lastTo at h2
 have hp := canon_pos hc
 constructor
 ·by_cases h0 : i = 0
  ·rw [h0] at hg; rw [hg] at h2; exact h2.1
  ·have := (canon_lt hc (i := 0) (j := i) (by omega) hi).1
   have h3 := hp (l.getD 0 (0, 0)) (by rw [List.getD_eq_getElem?_getD, List.getElem?_eq_getElem (by omega : 0 < l.length)]; exact List.getElem_mem _)
   rw [hg] at this
   omega
 ·by_cases h0 : i = l.length - 1
  ·rw [← h0, hg] at h2; exact h2.2
  ·have := (canon_lt hc (i := i) (j := l.length - 1) (by omega) (by omega)).2
   rw [hg] at this
   omega
end Wk
end Go.Proofs.YtmfdnbfjdhlonaaGreatDoor
namespace Go.Proofs.YtmfdnbfjdhlonaaGreatDoor
namespace Wk

def NextC (h : Int → Bool) (x : Int) : Option Int → Prop
 | some y => x < y ∧ h (y - 1) ≠ h y ∧ ∀ z, x < z → z < y → h (z - 1) = h z
 | none => ∀ z, x < z → h (z - 1) = h z
def PrevC (h : Int → Bool) (x : Int) : Option Int → Prop
 | some y => y ≤ x ∧ h (y - 1) ≠ h y ∧ ∀ z, y < z → z ≤ x → h (z - 1) = h z
 | none => ∀ z, z ≤ x → h (z - 1) = h z

theorem edge_iff : ∀ {l : List Sp} (c : Int), Canon l → (inL l (c - 1) ≠ inL l c ↔ ∃ s ∈ l, c = s.1 ∨ c = s.2)
 | [], c, _ => by simp [inL]
 | s :: r, c, hc => by
  have ih := edge_iff (l := r) c hc.2.2
  have h0 := hc.1
  by_cases h1 : c ≤ s.2
  ·have e1 : inL r (c - 1) = false := inL_low (fun t ht => by have := hc.2.1 t ht; omega)
   have e2 : inL r c = false := inL_low (fun t ht => by have := hc.2.1 t ht; omega)
   simp only [inL, e1, e2, Bool.or_false, List.mem_cons, exists_eq_or_imp]
   have e3 : ¬ ∃ t ∈ r, c = t.1 ∨ c = t.2 := by
    rintro ⟨t, ht, h⟩
    have := hc.2.1 t ht
    have := canon_pos hc.2.2 t ht
    omega
   simp only [e3, or_false]
   by_cases ha : c = s.1
   ·subst ha
    have f1 : (decide (s.1 ≤ s.1 - 1) && decide (s.1 - 1 < s.2)) = false := by simp; omega
    have f2 : (decide (s.1 ≤ s.1) && decide (s.1 < s.2)) = true := by simp; omega
    rw [f1, f2]; simp
   ·by_cases hb : c = s.2
    ·subst hb
     have f1 : (decide (s.1 ≤ s.2 - 1) && decide (s.2 - 1 < s.2)) = true := by simp; omega
     have f2 : (decide (s.1 ≤ s.2) && decide (s.2 < s.2)) = false := by simp
     rw [f1, f2]; simp
    ·have : (decide (s.1 ≤ c - 1) && decide (c - 1 < s.2)) = (decide (s.1 ≤ c) && decide (c < s.2)) := by
      rw [Bool.eq_iff_iff]; simp; omega
     rw [this]
     simp [ha, hb]
  ·have e1 : (decide (s.1 ≤ c - 1) && decide (c - 1 < s.2)) = false := by simp; omega
   have e2 : (decide (s.1 ≤ c) && decide (c < s.2)) = false := by simp; omega
   simp only [inL, e1, e2, Bool.false_or, ih, List.mem_cons, exists_eq_or_imp]
   constructor
   ·exact Or.inr
   ·rintro (h | h)
    ·omega
    ·exact h

def stepD (t P : Int) (s : Sp) : List Int := (if 0 < s.1 ∨ t < P then [s.1] else []) ++ (if s.2 < P then [s.2] else [])
def wrap0 (l : List Sp) (P : Int) : Bool := decide (lastTo l = P) && decide (0 < firstFr l)
def chgD (l : List Sp) (t P : Int) : List Int := l.flatMap (stepD t P)
def chg2 (l : List Sp) (P : Int) : List Int := (if wrap0 l P then [0] else []) ++ chgD l (lastTo l) P

theorem stepD_mem {t P : Int} {s : Sp} {x : Int} : x ∈ stepD t P s ↔ (x = s.1 ∧ (0 < s.1 ∨ t < P)) ∨ (x = s.2 ∧ s.2 < P) := by
 unfold stepD
 simp only [List.mem_append]
 split <;> split <;> simp_all <;> (intros; omega)
theorem chgD_mem {l : List Sp} {t P x : Int} : x ∈ chgD l t P ↔ ∃ s ∈ l, (x = s.1 ∧ (0 < s.1 ∨ t < P)) ∨ (x = s.2 ∧ s.2 < P) := by
 unfold chgD
 simp only [List.mem_flatMap, stepD_mem]
theorem chgD_sorted : ∀ {l : List Sp} (t P : Int), Canon l → (chgD l t P).Pairwise (· < ·)
 | [], _, _, _ => List.Pairwise.nil
 | s :: r, t, P, hc => by
  have ih := chgD_sorted (l := r) t P hc.2.2
  have e : chgD (s :: r) t P = stepD t P s ++ chgD r t P := rfl
  rw [e, List.pairwise_append]
  refine ⟨?_, ih, ?_⟩
  ·have h0 := hc.1
   unfold stepD
   split <;> split <;> simp
   exact h0
  ·intro a ha b hb
   have h0 := hc.1
   rw [stepD_mem] at ha
   rw [chgD_mem] at hb
   obtain ⟨u, hu, hb⟩ := hb
   have h1 := hc.2.1 u hu
   have h2 := canon_pos hc.2.2 u hu
   omega

theorem hasP_period (p : Per) (hP : 1 ≤ p.1) (x k : Int) : hasP p (x + k * p.1) = hasP p x := by
 unfold hasP
 rw [Int.add_mul_ediv_right _ _ (by omega), Int.add_mul]
 congr 1
 omega
theorem hasP_in (p : Per) (_ : 1 ≤ p.1) {x : Int} (h0 : 0 ≤ x) (h1 : x < p.1) : hasP p x = inL p.2 x := by
 unfold hasP
 rw [Int.ediv_eq_zero_of_lt h0 h1]; simp

theorem mem_last {l : List Sp} (h : 0 < l.length) : l.getD (l.length - 1) (0, 0) ∈ l := by
 rw [List.getD_eq_getElem?_getD, List.getElem?_eq_getElem (by omega)]; exact List.getElem_mem _
theorem mem_first {l : List Sp} (h : 0 < l.length) : l.getD 0 (0, 0) ∈ l := by
 rw [List.getD_eq_getElem?_getD, List.getElem?_eq_getElem h]; exact List.getElem_mem _
theorem canon_first {l : List Sp} (hc : Canon l) {s : Sp} (hs : s ∈ l) : firstFr l ≤ s.1 := by
 cases l with
 | nil => cases hs
 | cons u r =>
  simp at hs
  unfold firstFr
  simp only [List.getD_cons_zero]
  rcases hs with rfl | hs
  ·omega
  ·have := hc.2.1 s hs; have := hc.1; omega
theorem canon_last : ∀ {l : List Sp} (_ : Canon l) {s : Sp} (_ : s ∈ l), s.2 ≤ lastTo l
 | [], _, _, hs => by cases hs
 | [u], _, s, hs => by simp at hs; subst hs; simp [lastTo]
 | u :: t :: r, hc, s, hs => by
  have e : lastTo (u :: t :: r) = lastTo (t :: r) := by simp [lastTo]
  rw [e]
  simp at hs
  rcases hs with rfl | hs
  ·have h1 := hc.2.1 t (by simp)
   have h2 := canon_last hc.2.2 (s := t) (by simp)
   have h3 := hc.2.2.1
   omega
  ·exact canon_last hc.2.2 (by simpa using hs)

theorem inL_first {l : List Sp} (hc : Canon l) (hi : ∀ s ∈ l, 0 ≤ s.1) : inL l 0 = (decide (0 < l.length) && decide (firstFr l = 0)) := by
 cases l with
 | nil => rfl
 | cons u r =>
  have h0 := hc.1
  have h1 := hi u (by simp)
  have e : inL r 0 = false := inL_low (fun t ht => by have := hc.2.1 t ht; omega)
  simp only [inL, e, Bool.or_false, firstFr, List.getD_cons_zero, List.length_cons]
  rw [Bool.eq_iff_iff]; simp; omega
theorem inL_last {l : List Sp} {P : Int} (hc : Canon l) (hi : ∀ s ∈ l, s.2 ≤ P) : inL l (P - 1) = (decide (0 < l.length) && decide (lastTo l = P)) := by
 induction l with
 | nil => rfl
 | cons u r ih =>
  have h0 := hc.1
  have h1 := hi u (by simp)
  cases r with
  | nil =>
   simp only [inL, Bool.or_false, lastTo]
   rw [Bool.eq_iff_iff]; simp; omega
  | cons t r =>
   have e : lastTo (u :: t :: r) = lastTo (t :: r) := by simp [lastTo]
   have ih' := ih hc.2.2 (fun s hs => hi s (by simp [hs]))
   have h2 := hi t (by simp)
   have h3 := hc.2.1 t (by simp)
   have h4 := hc.2.2.1
   have e2 : (decide (u.1 ≤ P - 1) && decide (P - 1 < u.2)) = false := by simp; omega
   rw [show inL (u :: t :: r) (P - 1) = ((decide (u.1 ≤ P - 1) && decide (P - 1 < u.2)) || inL (t :: r) (P - 1)) from rfl, e2, Bool.false_or, ih', e]
   simp

theorem chg2_mem {p : Per} (h : GoodP p) (c : Int) : c ∈ chg2 p.2 p.1 ↔ 0 ≤ c ∧ c < p.1 ∧ hasP p (c - 1) ≠ hasP p c := by
 have hP := h.pos
 have hm : c ∈ chg2 p.2 p.1 ↔ (wrap0 p.2 p.1 = true ∧ c = 0) ∨ c ∈ chgD p.2 (lastTo p.2) p.1 := by
  unfold chg2
  rw [List.mem_append]
  by_cases hw : wrap0 p.2 p.1 = true <;> simp [hw]
 rw [hm, chgD_mem]
 have hlow : ∀ s ∈ p.2, 0 ≤ s.1 := fun s hs => (h.ins s hs).1
 have hhigh : ∀ s ∈ p.2, s.2 ≤ p.1 := fun s hs => (h.ins s hs).2
 have hpos := canon_pos h.canon
 by_cases hc0 : 0 < c ∧ c < p.1
 ·have e1 : hasP p (c - 1) = inL p.2 (c - 1) := hasP_in p hP (by omega) (by omega)
  have e2 : hasP p c = inL p.2 c := hasP_in p hP (by omega) hc0.2
  rw [e1, e2]
  have he := edge_iff c h.canon
  constructor
  ·rintro (⟨_, rfl⟩ | ⟨s, hs, h1⟩)
   ·omega
   ·refine ⟨by omega, hc0.2, he.2 ⟨s, hs, ?_⟩⟩
    rcases h1 with h1 | h1
    ·exact Or.inl h1.1
    ·exact Or.inr h1.1
  ·rintro ⟨_, _, hne⟩
   obtain ⟨s, hs, h1⟩ := he.1 hne
   refine Or.inr ⟨s, hs, ?_⟩
   rcases h1 with h1 | h1
   ·exact Or.inl ⟨h1, by omega⟩
   ·exact Or.inr ⟨h1, by omega⟩
 ·by_cases hz : c = 0
  ·subst hz
   have e1 : hasP p (0 - 1) = inL p.2 (p.1 - 1) := by
    have := hasP_period p hP (0 - 1) 1
    rw [← this, show (0 - 1 : Int) + 1 * p.1 = p.1 - 1 by omega]
    exact hasP_in p hP (by omega) (by omega)
   have e2 : hasP p 0 = inL p.2 0 := hasP_in p hP (by omega) (by omega)
   rw [e1, e2, inL_first h.canon hlow, inL_last h.canon hhigh]
   by_cases hl : 0 < p.2.length
   ·have hf := mem_first hl
    have hla := mem_last hl
    have hf0 : 0 ≤ firstFr p.2 := hlow _ hf
    have hlP : lastTo p.2 ≤ p.1 := hhigh _ hla
    have hff : ∀ s ∈ p.2, firstFr p.2 ≤ s.1 := fun s hs => canon_first h.canon hs
    unfold wrap0
    simp only [hl, decide_true, Bool.true_and]
    constructor
    ·rintro (⟨h1, _⟩ | ⟨s, hs, h1⟩)
     ·simp only [Bool.and_eq_true, decide_eq_true_eq] at h1
      refine ⟨by omega, by omega, ?_⟩
      have e3 : decide (lastTo p.2 = p.1) = true := by simp [h1.1]
      have e4 : decide (firstFr p.2 = 0) = false := by simp; omega
      rw [e3, e4]; simp
     ·have h2 := hff s hs
      have h3 := hlow s hs
      have h4 := hpos s hs
      refine ⟨by omega, by omega, ?_⟩
      have e3 : decide (lastTo p.2 = p.1) = false := by simp; omega
      have e4 : decide (firstFr p.2 = 0) = true := by simp; omega
      rw [e3, e4]; simp
    ·rintro ⟨_, _, hne⟩
     by_cases ha : lastTo p.2 = p.1
     ·by_cases hb : firstFr p.2 = 0
      ·simp [ha, hb] at hne
      ·exact Or.inl ⟨by simp [ha]; omega, trivial⟩
     ·by_cases hb : firstFr p.2 = 0
      ·exact Or.inr ⟨_, hf, Or.inl ⟨by unfold firstFr at hb; omega, by omega⟩⟩
      ·simp [ha, hb] at hne
   ·obtain e : p.2 = [] := List.eq_nil_of_length_eq_zero (by omega)
    simp [e, wrap0, firstFr, lastTo]
  ·constructor
   ·rintro (⟨_, h1⟩ | ⟨s, hs, h1⟩)
    ·omega
    ·have h2 := hlow s hs
     have h3 := hhigh s hs
     have h4 := hpos s hs
     omega
   ·rintro ⟨h1, h2, _⟩; omega

theorem chg2_sorted {p : Per} (h : GoodP p) : (chg2 p.2 p.1).Pairwise (· < ·) := by
 unfold chg2
 rw [List.pairwise_append]
 refine ⟨by split <;> simp, chgD_sorted _ _ h.canon, ?_⟩
 intro a ha b hb
 split at ha
 ·rename_i hw
  simp at ha
  subst ha
  unfold wrap0 at hw
  simp only [Bool.and_eq_true, decide_eq_true_eq] at hw
  rw [chgD_mem] at hb
  obtain ⟨s, hs, h1⟩ := hb
  have := canon_first h.canon hs
  have := canon_pos h.canon s hs
  omega
 ·cases ha

def constB (P : Int) (l : List Sp) : Bool := l.length == 0 || (decide (firstFr l = 0) && ((l.getD 0 (0, 0)).2 == P))
theorem const_no {p : Per} (h : GoodP p) (hc : constB p.1 p.2 = false) : chg2 p.2 p.1 ≠ [] := by
 unfold constB at hc
 intro he
 have hl : 0 < p.2.length := by
  apply Decidable.byContradiction; intro h0
  have : p.2.length = 0 := by omega
  simp [this] at hc
 have hne : (p.2.length == 0) = false := by simp; intro e; simp [e] at hl
 rw [hne, Bool.false_or] at hc
 have hf := mem_first hl
 have hin := h.ins _ hf
 have hpos := canon_pos h.canon _ hf
 by_cases h0 : 0 < firstFr p.2
 ·have : firstFr p.2 ∈ chg2 p.2 p.1 := by
   unfold chg2; rw [List.mem_append]; right
   rw [chgD_mem]; exact ⟨_, hf, Or.inl ⟨rfl, Or.inl h0⟩⟩
  rw [he] at this; cases this
 ·have e0 : firstFr p.2 = 0 := by unfold firstFr at h0 ⊢; omega
  rw [e0] at hc
  have h2 : (p.2.getD 0 (0, 0)).2 < p.1 := by
   have : ¬ (p.2.getD 0 (0, 0)).2 = p.1 := by intro e; rw [e] at hc; simp at hc
   omega
  have : (p.2.getD 0 (0, 0)).2 ∈ chg2 p.2 p.1 := by
   unfold chg2; rw [List.mem_append]; right
   rw [chgD_mem]; exact ⟨_, hf, Or.inr ⟨rfl, h2⟩⟩
  rw [he] at this; cases this
theorem const_yes {p : Per} (h : GoodP p) (hc : constB p.1 p.2 = true) : ∀ x, hasP p (x - 1) = hasP p x := by
 intro x
 unfold constB at hc
 rw [Bool.or_eq_true] at hc
 rcases hc with hc | hc
 ·have : p.2 = [] := List.eq_nil_of_length_eq_zero (by simpa using hc)
  unfold hasP; rw [this]; rfl
 ·simp only [Bool.and_eq_true, decide_eq_true_eq, beq_iff_eq] at hc
  cases hp : p.2 with
  | nil => unfold hasP; rw [hp]; rfl
  | cons s r =>
   rw [hp] at hc
   simp [firstFr] at hc
   have hall : ∀ y, hasP p y = true := by
    intro y
    have := mod_lo y h.pos
    unfold hasP
    rw [hp]
    simp only [inL]
    have : (decide (s.1 ≤ y - y / p.1 * p.1) && decide (y - y / p.1 * p.1 < s.2)) = true := by simp; omega
    rw [this]; rfl
   rw [hall, hall]
theorem isChg_iff {p : Per} (h : GoodP p) (y k : Int) (h0 : 0 ≤ y - k * p.1) (h1 : y - k * p.1 < p.1) : hasP p (y - 1) ≠ hasP p y ↔ (y - k * p.1) ∈ chg2 p.2 p.1 := by
 rw [chg2_mem h]
 have hP := h.pos
 have e1 : hasP p y = hasP p (y - k * p.1) := by
  have := hasP_period p hP (y - k * p.1) k
  rwa [show y - k * p.1 + k * p.1 = y by omega] at this
 have e2 : hasP p (y - 1) = hasP p (y - k * p.1 - 1) := by
  have := hasP_period p hP (y - k * p.1 - 1) k
  rwa [show y - k * p.1 - 1 + k * p.1 = y - 1 by omega] at this
 rw [e1, e2]
 exact ⟨fun h => ⟨h0, h1, h⟩, fun h => h.2.2⟩

theorem mem_getD {L : List Int} {x : Int} (hx : x ∈ L) : ∃ j, j < L.length ∧ L.getD j 0 = x := by
 obtain ⟨j, hj, e⟩ := List.getElem_of_mem hx
 exact ⟨j, hj, by rw [List.getD_eq_getElem?_getD, List.getElem?_eq_getElem hj]; exact e⟩
theorem getD_mem {L : List Int} {j : Nat} (hj : j < L.length) : L.getD j 0 ∈ L := by
 rw [List.getD_eq_getElem?_getD, List.getElem?_eq_getElem hj]; exact List.getElem_mem hj
theorem sorted_getD {L : List Int} (hs : L.Pairwise (· < ·)) {i j : Nat} (hij : i < j) (hj : j < L.length) : L.getD i 0 < L.getD j 0 := by
 have := List.pairwise_iff_getElem.1 hs i j (by omega) hj hij
 simpa [List.getD_eq_getElem?_getD, List.getElem?_eq_getElem hj, List.getElem?_eq_getElem (by omega : i < L.length)] using this

theorem next_in {p : Per} (h : GoodP p) {x : Int} {k : Nat} (hk : k < (chg2 p.2 p.1).length) (h1 : x < x / p.1 * p.1 + (chg2 p.2 p.1).getD k 0)
  (h2 : ∀ j, j < k → x / p.1 * p.1 + (chg2 p.2 p.1).getD j 0 ≤ x) : NextC (hasP p) x (some (x / p.1 * p.1 + (chg2 p.2 p.1).getD k 0)) := by
 have hb := mod_lo x h.pos
 have hm := (chg2_mem h _).1 (getD_mem hk)
 refine ⟨h1, ?_, ?_⟩
 ·rw [isChg_iff h _ (x / p.1) (by omega) (by omega)]
  rw [show x / p.1 * p.1 + (chg2 p.2 p.1).getD k 0 - x / p.1 * p.1 = (chg2 p.2 p.1).getD k 0 by omega]
  exact getD_mem hk
 ·intro z hz1 hz2
  apply Decidable.byContradiction
  intro hne
  have := (isChg_iff h z (x / p.1) (by omega) (by omega)).1 hne
  obtain ⟨j, hj, e⟩ := mem_getD this
  have hjk : j < k := by
   apply Decidable.byContradiction
   intro hge
   rcases Nat.lt_or_eq_of_le (by omega : k ≤ j) with hlt | heq
   ·have := sorted_getD (chg2_sorted h) hlt hj
    omega
   ·subst heq; omega
  have := h2 j hjk
  omega
theorem next_out {p : Per} (h : GoodP p) {x : Int} (h0 : chg2 p.2 p.1 ≠ []) (h2 : ∀ j, j < (chg2 p.2 p.1).length → x / p.1 * p.1 + (chg2 p.2 p.1).getD j 0 ≤ x) :
  NextC (hasP p) x (some (x / p.1 * p.1 + p.1 + (chg2 p.2 p.1).getD 0 0)) := by
 have hb := mod_lo x h.pos
 have hl : 0 < (chg2 p.2 p.1).length := List.length_pos_iff.2 h0
 have hm := (chg2_mem h _).1 (getD_mem hl)
 have hk : (x / p.1 + 1) * p.1 = x / p.1 * p.1 + p.1 := by rw [Int.add_mul]; omega
 refine ⟨by omega, ?_, ?_⟩
 ·rw [isChg_iff h _ (x / p.1 + 1) (by omega) (by omega)]
  rw [hk, show x / p.1 * p.1 + p.1 + (chg2 p.2 p.1).getD 0 0 - (x / p.1 * p.1 + p.1) = (chg2 p.2 p.1).getD 0 0 by omega]
  exact getD_mem hl
 ·intro z hz1 hz2
  apply Decidable.byContradiction
  intro hne
  by_cases hz : z < x / p.1 * p.1 + p.1
  ·have := (isChg_iff h z (x / p.1) (by omega) (by omega)).1 hne
   obtain ⟨j, hj, e⟩ := mem_getD this
   have := h2 j hj
   omega
  ·have := (isChg_iff h z (x / p.1 + 1) (by omega) (by omega)).1 hne
   obtain ⟨j, hj, e⟩ := mem_getD this
   rcases Nat.eq_zero_or_pos j with hj0 | hj0
   ·subst hj0; omega
   ·have := sorted_getD (chg2_sorted h) hj0 hj
    omega
theorem prev_in {p : Per} (h : GoodP p) {x : Int} {k : Nat} (hk : k < (chg2 p.2 p.1).length) (h1 : x / p.1 * p.1 + (chg2 p.2 p.1).getD k 0 ≤ x)
  (h2 : ∀ j, k < j → j < (chg2 p.2 p.1).length → x < x / p.1 * p.1 + (chg2 p.2 p.1).getD j 0) : PrevC (hasP p) x (some (x / p.1 * p.1 + (chg2 p.2 p.1).getD k 0)) := by
 have hb := mod_lo x h.pos
 have hm := (chg2_mem h _).1 (getD_mem hk)
 refine ⟨h1, ?_, ?_⟩
 ·rw [isChg_iff h _ (x / p.1) (by omega) (by omega)]
  rw [show x / p.1 * p.1 + (chg2 p.2 p.1).getD k 0 - x / p.1 * p.1 = (chg2 p.2 p.1).getD k 0 by omega]
  exact getD_mem hk
 ·intro z hz1 hz2
  apply Decidable.byContradiction
  intro hne
  have := (isChg_iff h z (x / p.1) (by omega) (by omega)).1 hne
  obtain ⟨j, hj, e⟩ := mem_getD this
  have hjk : k < j := by
   apply Decidable.byContradiction
   intro hge
   rcases Nat.lt_or_eq_of_le (by omega : j ≤ k) with hlt | heq
   ·have := sorted_getD (chg2_sorted h) hlt hk
    omega
   ·subst heq; omega
  have := h2 j hjk hj
  omega
theorem prev_out {p : Per} (h : GoodP p) {x : Int} (h0 : chg2 p.2 p.1 ≠ []) (h2 : ∀ j, j < (chg2 p.2 p.1).length → x < x / p.1 * p.1 + (chg2 p.2 p.1).getD j 0) :
  PrevC (hasP p) x (some (x / p.1 * p.1 - p.1 + (chg2 p.2 p.1).getD ((chg2 p.2 p.1).length - 1) 0)) := by
 have hb := mod_lo x h.pos
 have hl : 0 < (chg2 p.2 p.1).length := List.length_pos_iff.2 h0
 have hl' : (chg2 p.2 p.1).length - 1 < (chg2 p.2 p.1).length := by omega
 have hm := (chg2_mem h _).1 (getD_mem hl')
 have hk : (x / p.1 - 1) * p.1 = x / p.1 * p.1 - p.1 := by rw [Int.sub_mul]; omega
 refine ⟨by omega, ?_, ?_⟩
 ·rw [isChg_iff h _ (x / p.1 - 1) (by omega) (by omega)]
  rw [hk, show x / p.1 * p.1 - p.1 + (chg2 p.2 p.1).getD ((chg2 p.2 p.1).length - 1) 0 - (x / p.1 * p.1 - p.1) = (chg2 p.2 p.1).getD ((chg2 p.2 p.1).length - 1) 0 by omega]
  exact getD_mem hl'
 ·intro z hz1 hz2
  apply Decidable.byContradiction
  intro hne
  by_cases hz : x / p.1 * p.1 ≤ z
  ·have := (isChg_iff h z (x / p.1) (by omega) (by omega)).1 hne
   obtain ⟨j, hj, e⟩ := mem_getD this
   have := h2 j hj
   omega
  ·have := (isChg_iff h z (x / p.1 - 1) (by omega) (by omega)).1 hne
   obtain ⟨j, hj, e⟩ := mem_getD this
   rcases Nat.lt_or_eq_of_le (by omega : j ≤ (chg2 p.2 p.1).length - 1) with hlt | heq
   ·have := sorted_getD (chg2_sorted h) hlt hl'
    omega
   ·subst heq; omega

theorem chgD_len (l : List Sp) (t P : Int) : (chgD l t P).length ≤ 2 * l.length := by
 induction l with
 | nil => simp [chgD]
 | cons s r ih =>
  have e : chgD (s :: r) t P = stepD t P s ++ chgD r t P := rfl
  have h1 : (stepD t P s).length ≤ 2 := by
   unfold stepD
   rw [List.length_append]
   have a1 : (if 0 < s.1 ∨ t < P then [s.1] else []).length ≤ 1 := by split <;> simp
   have a2 : (if s.2 < P then [s.2] else []).length ≤ 1 := by split <;> simp
   omega
  rw [e, List.length_append, List.length_cons]; omega
theorem chg2_len (l : List Sp) (P : Int) : (chg2 l P).length ≤ 2 * l.length + 1 := by
 have := chgD_len l (lastTo l) P
 unfold chg2
 rw [List.length_append]
 have a1 : (if wrap0 l P then [(0 : Int)] else []).length ≤ 1 := by split <;> simp
 omega
/-! the list of the changes as it grows -/
def cT (l : List Sp) (P : Int) (k : Nat) : List Int := (if k = l.length ∧ wrap0 l P = true then [0] else []) ++ chgD (l.take k) (lastTo l) P
theorem cT_zero (l : List Sp) (P : Int) : cT l P 0 = [] := by
 unfold cT
 by_cases h : 0 = l.length
 ·have : l = [] := List.eq_nil_of_length_eq_zero h.symm
  subst this
  simp [wrap0, firstFr, chgD]
 ·simp [h, chgD]
theorem cT_full (l : List Sp) (P : Int) : cT l P l.length = chg2 l P := by
 unfold cT chg2
 simp
theorem cT_mid {l : List Sp} {P : Int} {k : Nat} (h : k < l.length) : cT l P k = chgD (l.take k) (lastTo l) P := by
 unfold cT
 rw [if_neg (by omega)]; rfl
theorem chgD_succ {l : List Sp} {k : Nat} {x y : Int} (t P : Int) (h : l.getD k (0, 0) = (x, y)) (hk : k < l.length) : chgD (l.take (k + 1)) t P = chgD (l.take k) t P ++ stepD t P (x, y) := by
 unfold chgD
 rw [getD_take_succ h hk, List.flatMap_append]; simp
theorem cT_lt {l : List Sp} {P : Int} {k : Nat} {x y : Int} (h : l.getD k (0, 0) = (x, y)) (hk : k < l.length) (hy : y < P) : cT l P (k + 1) = cT l P k ++ stepD (lastTo l) P (x, y) := by
 rw [cT_mid hk]
 have e : ¬ (k + 1 = l.length ∧ wrap0 l P = true) := by
  rintro ⟨e1, e2⟩
  unfold wrap0 at e2
  simp only [Bool.and_eq_true, decide_eq_true_eq] at e2
  have : lastTo l = y := by unfold lastTo; rw [show l.length - 1 = k by omega, h]
  omega
 unfold cT
 rw [if_neg e, chgD_succ _ _ h hk]; rfl
theorem last_of_ge {l : List Sp} {P : Int} {k : Nat} {x y : Int} (hc : Canon l) (hi : inside P l) (h : l.getD k (0, 0) = (x, y)) (hk : k < l.length) (hy : ¬ y < P) : k + 1 = l.length ∧ y = P ∧ lastTo l = P := by
 have hm := hi _ (mem_of_getD h hk)
 simp only at hm
 have hke : k + 1 = l.length := by
  apply Decidable.byContradiction
  intro hne
  have h1 := (canon_lt hc (i := k) (j := k + 1) (by omega) (by omega)).2
  rw [h] at h1
  simp only at h1
  have h2 := hi (l.getD (k + 1) (0, 0)) (by rw [List.getD_eq_getElem?_getD, List.getElem?_eq_getElem (by omega : k + 1 < l.length)]; exact List.getElem_mem _)
  omega
 refine ⟨hke, by omega, ?_⟩
 unfold lastTo
 rw [show l.length - 1 = k by omega, h]
 simp only; omega
theorem cT_wrap {l : List Sp} {P : Int} {k : Nat} {x y : Int} (hc : Canon l) (hi : inside P l) (h : l.getD k (0, 0) = (x, y)) (hk : k < l.length) (hy : ¬ y < P) (hf : 0 < firstFr l) : cT l P (k + 1) = 0 :: (cT l P k ++ stepD (lastTo l) P (x, y)) := by
 obtain ⟨h1, h2, h3⟩ := last_of_ge hc hi h hk hy
 rw [cT_mid hk]
 unfold cT
 rw [if_pos ⟨h1, by unfold wrap0; simp [h3, hf]⟩, chgD_succ _ _ h hk]; rfl
theorem cT_nowrap {l : List Sp} {P : Int} {k : Nat} {x y : Int} (h : l.getD k (0, 0) = (x, y)) (hk : k < l.length) (hf : ¬ 0 < firstFr l) : cT l P (k + 1) = cT l P k ++ stepD (lastTo l) P (x, y) := by
 rw [cT_mid hk]
 unfold cT
 rw [if_neg (by unfold wrap0; simp [hf]), chgD_succ _ _ h hk]; rfl
theorem cT_len (l : List Sp) (P : Int) (k : Nat) : (cT l P k).length ≤ 2 * k + 1 := by
 have := chgD_len (l.take k) (lastTo l) P
 have := List.length_take_le k l
 unfold cT
 rw [List.length_append]
 have a1 : (if k = l.length ∧ wrap0 l P = true then [(0 : Int)] else []).length ≤ 1 := by split <;> simp
 omega
end Wk
end Go.Proofs.YtmfdnbfjdhlonaaGreatDoor
namespace Go.Proofs.YtmfdnbfjdhlonaaGreatDoor
namespace Wk

theorem mem_idx {l : List Sp} {s : Sp} (hs : s ∈ l) : ∃ j, j < l.length ∧ l.getD j (0, 0) = s := by
 obtain ⟨j, hj, e⟩ := List.getElem_of_mem hs
 exact ⟨j, hj, by rw [List.getD_eq_getElem?_getD, List.getElem?_eq_getElem hj]; exact e⟩
theorem idx_mem {l : List Sp} {j : Nat} (hj : j < l.length) : l.getD j (0, 0) ∈ l := by
 rw [List.getD_eq_getElem?_getD, List.getElem?_eq_getElem hj]; exact List.getElem_mem hj
theorem idx_pos {l : List Sp} (hc : Canon l) {j : Nat} (hj : j < l.length) : (l.getD j (0, 0)).1 < (l.getD j (0, 0)).2 := canon_pos hc _ (idx_mem hj)

theorem bnext_fr {l : List Sp} {x a b : Int} {k : Nat} (hc : Canon l) (hk : k < l.length) (he : l.getD k (0, 0) = (a, b)) (h : ∀ j, j < k → (l.getD j (0, 0)).2 ≤ x) (hx : x < a) : NextC (inL l) x (some a) := by
 have hab := idx_pos hc hk
 rw [he] at hab
 refine ⟨hx, (edge_iff a hc).2 ⟨(a, b), by rw [← he]; exact idx_mem hk, Or.inl rfl⟩, ?_⟩
 intro z h1 h2
 apply Decidable.byContradiction
 intro hne
 obtain ⟨s, hs, hz⟩ := (edge_iff z hc).1 hne
 obtain ⟨j, hj, rfl⟩ := mem_idx hs
 have hp := idx_pos hc hj
 rcases Nat.lt_trichotomy j k with hjk | hjk | hjk
 ·have := h j hjk; omega
 ·subst hjk; rw [he] at hz hp; simp only at hz hp; omega
 ·have := canon_lt hc hjk hj
  rw [he] at this; simp only at this hab; omega
theorem bnext_to {l : List Sp} {x a b : Int} {k : Nat} (hc : Canon l) (hk : k < l.length) (he : l.getD k (0, 0) = (a, b)) (h : ∀ j, j < k → (l.getD j (0, 0)).2 ≤ x) (ha : a ≤ x) (hx : x < b) : NextC (inL l) x (some b) := by
 refine ⟨hx, (edge_iff b hc).2 ⟨(a, b), by rw [← he]; exact idx_mem hk, Or.inr rfl⟩, ?_⟩
 intro z h1 h2
 apply Decidable.byContradiction
 intro hne
 obtain ⟨s, hs, hz⟩ := (edge_iff z hc).1 hne
 obtain ⟨j, hj, rfl⟩ := mem_idx hs
 have hp := idx_pos hc hj
 rcases Nat.lt_trichotomy j k with hjk | hjk | hjk
 ·have := h j hjk; omega
 ·subst hjk; rw [he] at hz hp; simp only at hz hp; omega
 ·have := canon_lt hc hjk hj
  rw [he] at this; simp only at this; omega
theorem bnext_no {l : List Sp} {x : Int} (hc : Canon l) (h : ∀ j, j < l.length → (l.getD j (0, 0)).2 ≤ x) : NextC (inL l) x none := by
 intro z h1
 apply Decidable.byContradiction
 intro hne
 obtain ⟨s, hs, hz⟩ := (edge_iff z hc).1 hne
 obtain ⟨j, hj, rfl⟩ := mem_idx hs
 have hp := idx_pos hc hj
 have := h j hj
 omega
theorem bprev_to {l : List Sp} {x a b : Int} {k : Nat} (hc : Canon l) (hk : k < l.length) (he : l.getD k (0, 0) = (a, b)) (h : ∀ j, k < j → j < l.length → x < (l.getD j (0, 0)).1) (hx : b ≤ x) : PrevC (inL l) x (some b) := by
 have hab := idx_pos hc hk
 rw [he] at hab
 refine ⟨hx, (edge_iff b hc).2 ⟨(a, b), by rw [← he]; exact idx_mem hk, Or.inr rfl⟩, ?_⟩
 intro z h1 h2
 apply Decidable.byContradiction
 intro hne
 obtain ⟨s, hs, hz⟩ := (edge_iff z hc).1 hne
 obtain ⟨j, hj, rfl⟩ := mem_idx hs
 have hp := idx_pos hc hj
 rcases Nat.lt_trichotomy j k with hjk | hjk | hjk
 ·have := canon_lt hc hjk hk
  rw [he] at this; simp only at this hab; omega
 ·subst hjk; rw [he] at hz hp; simp only at hz hp; omega
 ·have := h j hjk hj; omega
theorem bprev_fr {l : List Sp} {x a b : Int} {k : Nat} (hc : Canon l) (hk : k < l.length) (he : l.getD k (0, 0) = (a, b)) (h : ∀ j, k < j → j < l.length → x < (l.getD j (0, 0)).1) (hb : x < b) (hx : a ≤ x) : PrevC (inL l) x (some a) := by
 refine ⟨hx, (edge_iff a hc).2 ⟨(a, b), by rw [← he]; exact idx_mem hk, Or.inl rfl⟩, ?_⟩
 intro z h1 h2
 apply Decidable.byContradiction
 intro hne
 obtain ⟨s, hs, hz⟩ := (edge_iff z hc).1 hne
 obtain ⟨j, hj, rfl⟩ := mem_idx hs
 have hp := idx_pos hc hj
 rcases Nat.lt_trichotomy j k with hjk | hjk | hjk
 ·have := canon_lt hc hjk hk
  rw [he] at this; simp only at this; omega
 ·subst hjk; rw [he] at hz hp; simp only at hz hp; omega
 ·have := h j hjk hj; omega
theorem bprev_no {l : List Sp} {x : Int} (hc : Canon l) (h : ∀ j, j < l.length → x < (l.getD j (0, 0)).1) : PrevC (inL l) x none := by
 intro z h1
 apply Decidable.byContradiction
 intro hne
 obtain ⟨s, hs, hz⟩ := (edge_iff z hc).1 hne
 obtain ⟨j, hj, rfl⟩ := mem_idx hs
 have hp := idx_pos hc hj
 have := h j hj
 omega

/-! the next change of a set, out of its parts -/
theorem hasS_lf {s : St} {x : Int} (h : x < s.fr) : hasS s x = hasP s.lf x := by unfold hasS; rw [if_pos h]
theorem hasS_mid {s : St} {x : Int} (h1 : s.fr ≤ x) (h2 : x < s.to) : hasS s x = inL s.l x := by unfold hasS; rw [if_neg (by omega), if_pos h2]
theorem hasS_rt {s : St} {x : Int} (h0 : s.fr ≤ s.to) (h2 : s.to ≤ x) : hasS s x = hasP s.rt x := by unfold hasS; rw [if_neg (by omega), if_neg (by omega)]

theorem next_part {h g : Int → Bool} {x e y : Int} (hh : ∀ z, x ≤ z → z < e → h z = g z) (hn : NextC g x (some y)) (hy : y < e) : NextC h x (some y) := by
 obtain ⟨h1, h2, h3⟩ := hn
 refine ⟨h1, ?_, ?_⟩
 ·rw [hh (y - 1) (by omega) (by omega), hh y (by omega) hy]; exact h2
 ·intro z z1 z2
  rw [hh (z - 1) (by omega) (by omega), hh z (by omega) (by omega)]; exact h3 z z1 z2
theorem const_part {h g : Int → Bool} {x e : Int} {r : Option Int} (hh : ∀ z, x ≤ z → z < e → h z = g z) (hn : NextC g x r) (hr : ∀ y, r = some y → e ≤ y) : ∀ z, x < z → z < e → h (z - 1) = h z := by
 intro z z1 z2
 rw [hh (z - 1) (by omega) (by omega), hh z (by omega) z2]
 cases r with
 | none => exact hn z z1
 | some y => have := hr y rfl; exact hn.2.2 z z1 (by omega)
theorem next_edge {h : Int → Bool} {x e : Int} (hx : x < e) (hc : ∀ z, x < z → z < e → h (z - 1) = h z) (hj : h (e - 1) ≠ h e) : NextC h x (some e) := ⟨hx, hj, hc⟩
theorem next_over {h : Int → Bool} {x e : Int} {r : Option Int} (hx : x < e) (hc : ∀ z, x < z → z < e → h (z - 1) = h z) (hj : h (e - 1) = h e) (hn : NextC h e r) : NextC h x r := by
 cases r with
 | none =>
  intro z z1
  rcases Int.lt_trichotomy z e with hz | hz | hz
  ·exact hc z z1 hz
  ·subst hz; exact hj
  ·exact hn z hz
 | some y =>
  refine ⟨by have := hn.1; omega, hn.2.1, ?_⟩
  intro z z1 z2
  rcases Int.lt_trichotomy z e with hz | hz | hz
  ·exact hc z z1 hz
  ·subst hz; exact hj
  ·exact hn.2.2 z hz z2
theorem next_uniq {h : Int → Bool} {x : Int} {r r' : Option Int} (h1 : NextC h x r) (h2 : NextC h x r') : r = r' := by
 cases r with
 | none =>
  cases r' with
  | none => rfl
  | some y => exact absurd (h1 y h2.1) h2.2.1
 | some y =>
  cases r' with
  | none => exact absurd (h2 y h1.1) h1.2.1
  | some y' =>
   congr 1
   apply Decidable.byContradiction
   intro hne
   rcases Int.lt_or_gt_of_ne hne with hl | hl
   ·exact h1.2.1 (h2.2.2 y h1.1 hl)
   ·exact h2.2.1 (h1.2.2 y' h2.1 hl)
/-! the first and the last difference -/
def FirstD (d : Int → Bool) (low high : Int) : Option Int → Prop
 | some x => low ≤ x ∧ x < high ∧ d x = true ∧ ∀ z, low ≤ z → z < x → d z = false
 | none => ∀ z, low ≤ z → z < high → d z = false
def LastD (d : Int → Bool) (low high : Int) : Option Int → Prop
 | some x => low ≤ x ∧ x < high ∧ d x = true ∧ ∀ z, x < z → z < high → d z = false
 | none => ∀ z, low ≤ z → z < high → d z = false
theorem const_up {h : Int → Bool} {y : Int} : ∀ (n : Nat), (∀ z, y < z → z ≤ y + n → h (z - 1) = h z) → h (y + n) = h y
 | 0, _ => by simp
 | n + 1, hc => by
  have ih := const_up n (fun z h1 h2 => hc z h1 (by omega))
  have h1 := hc (y + ((n + 1 : Nat) : Int)) (by omega) (by omega)
  rw [show y + ((n + 1 : Nat) : Int) - 1 = y + n by omega] at h1
  rw [← h1, ih]
theorem const_next {h : Int → Bool} {y z : Int} {r : Option Int} (hn : NextC h y r) (hz : y ≤ z) (hr : ∀ k, r = some k → z < k) : h z = h y := by
 obtain ⟨n, rfl⟩ : ∃ n : Nat, z = y + n := ⟨(z - y).toNat, by omega⟩
 refine const_up n (fun u h1 h2 => ?_)
 cases r with
 | none => exact hn u h1
 | some k => have := hr k rfl; exact hn.2.2 u h1 (by omega)
theorem const_down {h : Int → Bool} {y : Int} : ∀ (n : Nat), (∀ z, y - n < z → z ≤ y → h (z - 1) = h z) → h (y - n) = h y
 | 0, _ => by simp
 | n + 1, hc => by
  have ih := const_down n (fun z h1 h2 => hc z (by omega) h2)
  have h1 := hc (y - n) (by omega) (by omega)
  rw [show y - ((n + 1 : Nat) : Int) = y - n - 1 by omega, h1, ih]
theorem const_prev {h : Int → Bool} {y z : Int} {r : Option Int} (hn : PrevC h y r) (hz : z ≤ y) (hr : ∀ k, r = some k → k ≤ z) : h z = h y := by
 obtain ⟨n, rfl⟩ : ∃ n : Nat, z = y - n := ⟨(y - z).toNat, by omega⟩
 refine const_down n (fun u h1 h2 => ?_)
 cases r with
 | none => exact hn u h2
 | some k => have := hr k rfl; exact hn.2.2 u (by omega) h2
theorem first_uniq {d : Int → Bool} {low high : Int} {r r' : Option Int} (h1 : FirstD d low high r) (h2 : FirstD d low high r') : r = r' := by
 cases r with
 | none =>
  cases r' with
  | none => rfl
  | some y => have := h1 y h2.1 h2.2.1; rw [h2.2.2.1] at this; cases this
 | some y =>
  cases r' with
  | none => have := h2 y h1.1 h1.2.1; rw [h1.2.2.1] at this; cases this
  | some y' =>
   congr 1
   apply Decidable.byContradiction
   intro hne
   rcases Int.lt_or_gt_of_ne hne with hl | hl
   ·have := h2.2.2.2 y h1.1 hl; rw [h1.2.2.1] at this; cases this
   ·have := h1.2.2.2 y' h2.1 hl; rw [h2.2.2.1] at this; cases this
theorem last_uniq {d : Int → Bool} {low high : Int} {r r' : Option Int} (h1 : LastD d low high r) (h2 : LastD d low high r') : r = r' := by
 cases r with
 | none =>
  cases r' with
  | none => rfl
  | some y => have := h1 y h2.1 h2.2.1; rw [h2.2.2.1] at this; cases this
 | some y =>
  cases r' with
  | none => have := h2 y h1.1 h1.2.1; rw [h1.2.2.1] at this; cases this
  | some y' =>
   congr 1
   apply Decidable.byContradiction
   intro hne
   rcases Int.lt_or_gt_of_ne hne with hl | hl
   ·have := h1.2.2.2 y' hl h2.2.1; rw [h2.2.2.1] at this; cases this
   ·have := h2.2.2.2 y hl h1.2.1; rw [h1.2.2.1] at this; cases this
end Wk
end Go.Proofs.YtmfdnbfjdhlonaaGreatDoor
namespace Go.Proofs.YtmfdnbfjdhlonaaGreatDoor
open Wk

theorem rvB_of_pvB {P : Int} {l : List Sp} (h : pvB P l = true) : rvB l = true ∧ 1 ≤ P ∧ P ≤ 12622780800 ∧ inside P l := by
 unfold pvB at h
 simp only [Bool.and_eq_true, decide_eq_true_eq] at h
 have := inside_of_insB h.1.2
 exact ⟨this.1, h.1.1.1, h.1.1.2, this.2⟩
theorem goodP_of_pvB {P : Int} {l : List Sp} (h : pvB P l = true) : GoodP (P, l) := by
 have := rvB_of_pvB h
 exact ⟨this.2.1, (canon_of_rvB this.1).1, this.2.2.2⟩

def peB (P1 : Int) (l1 : List Sp) (P2 : Int) (l2 : List Sp) : Bool := pvB P1 l1 && pvB P2 l2 && (P1 == P2) && decide (l1 = l2)

structure OkS (s : St) : Prop where
 lf : pvB s.lf.1 s.lf.2 = true
 rt : pvB s.rt.1 s.rt.2 = true
 l : rvB s.l = true
 f1 : -4398046511104 ≤ s.fr
 ft : s.fr ≤ s.to
 t1 : s.to ≤ 4398046511104
 ins : ∀ x ∈ s.l, s.fr ≤ x.1 ∧ x.2 ≤ s.to
theorem OkS.good {s : St} (h : OkS s) : GoodS s := ⟨goodP_of_pvB h.lf, goodP_of_pvB h.rt, h.ft, (canon_of_rvB h.l).1, h.ins⟩

end Go.Proofs.YtmfdnbfjdhlonaaGreatDoor
namespace Go.Proofs.YtmfdnbfjdhlonaaGreatDoor
namespace Wk

def firstN (d : Int → Bool) (low : Int) : Nat → Option Int
 | 0 => none
 | n + 1 => if d low then some low else firstN d (low + 1) n
def firstF (d : Int → Bool) (low high : Int) : Option Int := firstN d low (high - low).toNat
theorem firstN_ok (d : Int → Bool) : ∀ (n : Nat) (low : Int), FirstD d low (low + n) (firstN d low n)
 | 0, low => by intro z h1 h2; omega
 | n + 1, low => by
  unfold firstN
  by_cases h : d low
  ·rw [if_pos h]
   exact ⟨by omega, by omega, h, fun z h1 h2 => by omega⟩
  ·rw [if_neg h]
   have ih := firstN_ok d n (low + 1)
   have e : low + 1 + (n : Int) = low + ((n + 1 : Nat) : Int) := by omega
   rw [e] at ih
   cases hr : firstN d (low + 1) n with
   | none =>
    rw [hr] at ih
    intro z h1 h2
    rcases Int.lt_or_eq_of_le h1 with h3 | h3
    ·exact ih z (by omega) h2
    ·subst h3; simpa using h
   | some x =>
    rw [hr] at ih
    obtain ⟨a1, a2, a3, a4⟩ := ih
    refine ⟨by omega, a2, a3, fun z h1 h2 => ?_⟩
    rcases Int.lt_or_eq_of_le h1 with h3 | h3
    ·exact a4 z (by omega) h2
    ·subst h3; simpa using h
theorem firstF_ok (d : Int → Bool) (low high : Int) : FirstD d low high (firstF d low high) := by
 by_cases h : low ≤ high
 ·have := firstN_ok d (high - low).toNat low
  rwa [show low + ((high - low).toNat : Int) = high by omega] at this
 ·unfold firstF
  rw [show (high - low).toNat = 0 by omega]
  intro z h1 h2; omega
theorem first_is {d : Int → Bool} {low high : Int} {r : Option Int} (h : FirstD d low high r) : r = firstF d low high := first_uniq h (firstF_ok d low high)

def lastN (d : Int → Bool) (high : Int) : Nat → Option Int
 | 0 => none
 | n + 1 => if d (high - 1) then some (high - 1) else lastN d (high - 1) n
def lastF (d : Int → Bool) (low high : Int) : Option Int := lastN d high (high - low).toNat
theorem lastN_ok (d : Int → Bool) : ∀ (n : Nat) (high : Int), LastD d (high - n) high (lastN d high n)
 | 0, high => by intro z h1 h2; omega
 | n + 1, high => by
  unfold lastN
  by_cases h : d (high - 1)
  ·rw [if_pos h]
   exact ⟨by omega, by omega, h, fun z h1 h2 => by omega⟩
  ·rw [if_neg h]
   have ih := lastN_ok d n (high - 1)
   have e : high - 1 - (n : Int) = high - ((n + 1 : Nat) : Int) := by omega
   rw [e] at ih
   cases hr : lastN d (high - 1) n with
   | none =>
    rw [hr] at ih
    intro z h1 h2
    by_cases h3 : z < high - 1
    ·exact ih z h1 h3
    ·obtain rfl : z = high - 1 := by omega
     simpa using h
   | some x =>
    rw [hr] at ih
    obtain ⟨a1, a2, a3, a4⟩ := ih
    refine ⟨a1, by omega, a3, fun z h1 h2 => ?_⟩
    by_cases h3 : z < high - 1
    ·exact a4 z h1 h3
    ·obtain rfl : z = high - 1 := by omega
     simpa using h
theorem lastF_ok (d : Int → Bool) (low high : Int) : LastD d low high (lastF d low high) := by
 by_cases h : low ≤ high
 ·have := lastN_ok d (high - low).toNat high
  rwa [show high - ((high - low).toNat : Int) = low by omega] at this
 ·unfold lastF
  rw [show (high - low).toNat = 0 by omega]
  intro z h1 h2; omega
theorem last_is {d : Int → Bool} {low high : Int} {r : Option Int} (h : LastD d low high r) : r = lastF d low high := last_uniq h (lastF_ok d low high)

def memF (h : Int → Bool) (f : Int) : Nat → List Sp
 | 0 => []
 | n + 1 =>
  if h (f + n) then
   match (memF h f n).getLast? with
   | some s => if s.2 = f + n then (memF h f n).dropLast ++ [(s.1, f + n + 1)] else memF h f n ++ [(f + n, f + n + 1)]
   | none => memF h f n ++ [(f + n, f + n + 1)]
  else memF h f n

theorem memF_len (h : Int → Bool) (f : Int) (n : Nat) : (memF h f n).length ≤ (memF h f (n + 1)).length := by
 rw [memF]
 split
 ·split
  ·rename_i s hs
   have hne : memF h f n ≠ [] := by intro e; rw [e] at hs; simp at hs
   have := List.length_pos_iff.2 hne
   split <;> simp <;> omega
  ·simp
 ·exact Nat.le_refl _
theorem memF_mono (h : Int → Bool) (f : Int) (n : Nat) : ∀ k, (memF h f n).length ≤ (memF h f (n + k)).length
 | 0 => Nat.le_refl _
 | k + 1 => Nat.le_trans (memF_mono h f n k) (memF_len h f (n + k))
theorem memF_last (h : Int → Bool) (f : Int) : ∀ (n : Nat) (s : Sp), (memF h f n).getLast? = some s → s.2 ≤ f + n ∧ (s.2 = f + n → h (f + n - 1) = true)
 | 0, s, hs => by simp [memF] at hs
 | n + 1, s, hs => by
  rw [memF] at hs
  have e : f + ((n + 1 : Nat) : Int) = f + n + 1 := by omega
  by_cases hh : h (f + n) = true
  ·refine ⟨?_, fun _ => by rw [e, show f + (n : Int) + 1 - 1 = f + n by omega]; exact hh⟩
   rw [if_pos hh] at hs
   split at hs
   ·split at hs
    ·simp at hs; subst hs; simp only; omega
    ·simp at hs; subst hs; simp only; omega
   ·simp at hs; subst hs; simp only; omega
  ·rw [if_neg hh] at hs
   have := memF_last h f n s hs
   exact ⟨by omega, fun h2 => by omega⟩
theorem memF_off (h : Int → Bool) (f : Int) (n : Nat) : ∀ k : Nat, (∀ z, f + n ≤ z → z < f + n + k → h z = false) → memF h f (n + k) = memF h f n
 | 0, _ => rfl
 | k + 1, hz => by
  rw [← Nat.add_assoc, memF, if_neg (by rw [hz _ (by omega) (by omega)]; simp)]
  exact memF_off h f n k fun z h1 h2 => hz z h1 (by omega)
theorem memF_on (h : Int → Bool) (f : Int) (n : Nat) (hs : ∀ s, (memF h f n).getLast? = some s → s.2 ≠ f + n) : ∀ k : Nat, (∀ z, f + n ≤ z → z < f + n + (k + 1 : Nat) → h z = true) →
  memF h f (n + (k + 1)) = memF h f n ++ [(f + n, f + n + (k + 1 : Nat))]
 | 0, hz => by
  rw [memF, if_pos (hz _ (by omega) (by omega))]
  split
  ·rename_i s hs'
   rw [if_neg (hs s hs')]
   simp
  ·simp
 | k + 1, hz => by
  have ih := memF_on h f n hs k fun z h1 h2 => hz z h1 (by omega)
  rw [← Nat.add_assoc, memF, if_pos (hz _ (by omega) (by omega)), ih]
  have e : f + (n : Int) + ((k + 1 : Nat) : Int) = f + ((n + (k + 1) : Nat) : Int) := by omega
  simp only [List.getLast?_append, List.getLast?_singleton, Option.some_or, List.dropLast_concat]
  rw [if_pos (by omega)]
  congr 2
  simp only [Prod.mk.injEq, true_and]
  omega

def commonM (m n : Int) : Int := if 12622780800 / n < m / (Int.gcd m n : Int) then 12622780801 else m / (Int.gcd m n : Int) * n
theorem commonM_bd {m n : Int} (hm : 1 ≤ m) (hn : 1 ≤ n) : 1 ≤ commonM m n ∧ commonM m n ≤ 12622780801 := by
 unfold commonM
 split
 ·omega
 ·rename_i h
  have hg : 0 < Int.gcd m n := Int.gcd_pos_of_ne_zero_left _ (by omega)
  have hd : (Int.gcd m n : Int) ∣ m := Int.gcd_dvd_left ..
  have h1 : 1 ≤ m / (Int.gcd m n : Int) := by
   have := Int.ediv_mul_cancel hd
   rcases Int.lt_or_le (m / (Int.gcd m n : Int)) 1 with h2 | h2
   ·have : m / (Int.gcd m n : Int) * (Int.gcd m n : Int) ≤ 0 := Int.mul_nonpos_of_nonpos_of_nonneg (by omega) (by omega)
    omega
   ·exact h2
  have h3 : m / (Int.gcd m n : Int) * n ≤ 12622780800 / n * n := Int.mul_le_mul_of_nonneg_right (by omega) (by omega)
  have h4 : 12622780800 / n * n ≤ 12622780800 := Int.ediv_mul_le _ (by omega)
  have h5 : 1 * 1 ≤ m / (Int.gcd m n : Int) * n := Int.mul_le_mul h1 hn (by omega) (by omega)
  omega
def pairM (P : Int) (l : List Sp) (Q : Int) (k : List Sp) : Int :=
 if peB P l Q k then 0
 else if 12622780800 < commonM P Q then 9
 else if 2000 < commonM P Q / P * l.length + commonM P Q / Q * k.length then 5
 else 0

def givenB (s : St) : Bool := pvB s.lf.1 s.lf.2 && pvB s.rt.1 s.rt.2 && decide (s.fr ≤ s.to) && lineB s.fr && lineB s.to && rvB s.l &&
 (decide (s.l = []) || (decide (s.fr ≤ (s.l.getD 0 (0, 0)).1) && decide ((s.l.getD (s.l.length - 1) (0, 0)).2 ≤ s.to)))

def noSt : St := ⟨(0, []), (0, []), 0, 0, []⟩
def pureF (p : Per) : St := ⟨p, p, 0, 0, []⟩
def memL (h : Int → Bool) (f t : Int) : List Sp := if (memF h f (t - f).toNat).length ≤ 2000 then memF h f (t - f).toNat else []

def formE (s : St) (e b : Int) : St × Int :=
 let fr := if b ≤ e + 1 then b else e + 1
 if lineB fr && lineB (e + 1) then (⟨s.lf, s.rt, fr, e + 1, memL (hasS s) fr (e + 1)⟩, 0) else (noSt, 9)
def endF (s : St) : Option Int :=
 (lastF (fun x => inL s.l x != hasP s.rt x) s.fr s.to).or (lastF (fun x => hasP s.lf x != hasP s.rt x) (s.fr - commonM s.lf.1 s.rt.1) s.fr)
def begF (s : St) : Option Int :=
 (firstF (fun x => inL s.l x != hasP s.lf x) s.fr s.to).or (firstF (fun x => hasP s.rt x != hasP s.lf x) s.to (s.to + commonM s.lf.1 s.rt.1))
def formF (s : St) : St × Int :=
 if pairM s.lf.1 s.lf.2 s.rt.1 s.rt.2 ≠ 0 then (noSt, pairM s.lf.1 s.lf.2 s.rt.1 s.rt.2)
 else if (lastF (fun x => inL s.l x != hasP s.rt x) s.fr s.to).isNone && peB s.lf.1 s.lf.2 s.rt.1 s.rt.2 && (firstF (fun x => inL s.l x != hasP s.lf x) s.fr s.to).isNone then (pureF s.lf, 0)
 else match endF s, begF s with
  | some e, some b => formE s e b
  | _, _ => (pureF s.lf, 0)

def VB (s : St) : Bool := givenB s && ((formF s).2 == 0) && ((formF s).1.fr == s.fr) && ((formF s).1.to == s.to) &&
 peB s.lf.1 s.lf.2 (formF s).1.lf.1 (formF s).1.lf.2 && peB s.rt.1 s.rt.2 (formF s).1.rt.1 (formF s).1.rt.2 && decide ((formF s).1.l = s.l)

theorem okS_of_givenB {s : St} (h : givenB s = true) : OkS s := by
 unfold givenB at h
 simp only [Bool.and_eq_true, Bool.or_eq_true, decide_eq_true_eq] at h
 obtain ⟨⟨⟨⟨⟨⟨h1, h2⟩, h3⟩, h4⟩, h5⟩, h6⟩, h7⟩ := h
 rw [lineB_iff] at h4 h5
 refine ⟨h1, h2, h6, h4.1, h3, h5.2, fun x hx => ?_⟩
 rcases h7 with h7 | ⟨h7, h8⟩
 ·rw [h7] at hx; simp at hx
 ·have hc := (canon_of_rvB h6).1
  obtain ⟨j, hj, e⟩ := mem_idx hx
  have p1 := idx_pos hc hj
  rw [e] at p1
  constructor
  ·by_cases h0 : j = 0
   ·subst h0; rw [e] at h7; exact h7
   ·have := canon_lt hc (i := 0) (j := j) (by omega) hj
    have p0 := idx_pos hc (j := 0) (by omega)
    rw [e] at this
    omega
  ·by_cases h0 : j = s.l.length - 1
   ·subst h0; rw [e] at h8; exact h8
   ·have := canon_lt hc (i := j) (j := s.l.length - 1) (by omega) (by omega)
    have p0 := idx_pos hc (j := s.l.length - 1) (by omega)
    rw [e] at this
    omega
theorem okS_of_VB {s : St} (h : VB s = true) : OkS s := by
 unfold VB at h
 simp only [Bool.and_eq_true] at h
 exact okS_of_givenB h.1.1.1.1.1.1
end Wk
end Go.Proofs.YtmfdnbfjdhlonaaGreatDoor
namespace Go.Proofs.YtmfdnbfjdhlonaaGreatDoor
namespace Wk

/-! ## adding -/
/-! ## subtracting -/
/-! ## bounds -/
end Wk
end Go.Proofs.YtmfdnbfjdhlonaaGreatDoor
namespace Go.Proofs.YtmfdnbfjdhlonaaGreatDoor
namespace Wk

/-! ## the exported functions -/
/-! ## adding reaches the amount -/
/-! ## what was added can be subtracted -/
/-! ## the cut -/
/-! ## shares -/
end Wk
end Go.Proofs.YtmfdnbfjdhlonaaGreatDoor
namespace Go.Proofs.YtmfdnbfjdhlonaaGreatDoor
namespace Wk

end Wk
end Go.Proofs.YtmfdnbfjdhlonaaGreatDoor
namespace Go.Proofs.YtmfdnbfjdhlonaaGreatDoor
namespace Wk
end Wk
end Go.Proofs.YtmfdnbfjdhlonaaGreatDoor
namespace Go.Proofs.YtmfdnbfjdhlonaaGreatDoor
namespace Wk
def earlyB (s : St) : Bool := (lastF (fun x => inL s.l x != hasP s.rt x) s.fr s.to).isNone && peB s.lf.1 s.lf.2 s.rt.1 s.rt.2 && (firstF (fun x => inL s.l x != hasP s.lf x) s.fr s.to).isNone
theorem form_pair {s : St} {e : Int} (h : pairM s.lf.1 s.lf.2 s.rt.1 s.rt.2 = e) (he : e ≠ 0) : formF s = (noSt, e) := by
 unfold formF; rw [h, if_pos he]
theorem form_early {s : St} (h : pairM s.lf.1 s.lf.2 s.rt.1 s.rt.2 = 0) (he : earlyB s = true) : formF s = (pureF s.lf, 0) := by
 unfold formF; rw [h, if_neg (by simp)]; unfold earlyB at he; rw [if_pos he]
theorem form_none {s : St} (h : pairM s.lf.1 s.lf.2 s.rt.1 s.rt.2 = 0) (he : earlyB s = false) (hn : endF s = none ∨ begF s = none) : formF s = (pureF s.lf, 0) := by
 unfold formF; rw [h, if_neg (by simp)]; unfold earlyB at he; rw [if_neg (by rw [he]; simp)]
 rcases hn with hn | hn
 ·rw [hn]
 ·rw [hn]; cases endF s <;> rfl
theorem form_some {s : St} {e b : Int} (h : pairM s.lf.1 s.lf.2 s.rt.1 s.rt.2 = 0) (he : earlyB s = false) (h1 : endF s = some e) (h2 : begF s = some b) : formF s = formE s e b := by
 unfold formF; rw [h, if_neg (by simp)]; unfold earlyB at he; rw [if_neg (by rw [he]; simp), h1, h2]
theorem last_bd {d : Int → Bool} {low high x : Int} (h : lastF d low high = some x) : low ≤ x ∧ x < high := by
 have := lastF_ok d low high
 rw [h] at this
 exact ⟨this.1, this.2.1⟩
theorem first_bd {d : Int → Bool} {low high x : Int} (h : firstF d low high = some x) : low ≤ x ∧ x < high := by
 have := firstF_ok d low high
 rw [h] at this
 exact ⟨this.1, this.2.1⟩
theorem end_bd {s : St} (hs : OkS s) {x : Int} (h : endF s = some x) : -17021827311905 ≤ x ∧ x ≤ 4398046511104 := by
 have h1 := (rvB_of_pvB hs.lf).2.1
 have h2 := (rvB_of_pvB hs.rt).2.1
 have hc := commonM_bd h1 h2
 have hfr := hs.f1
 have hto := hs.t1
 have hft := hs.ft
 unfold endF at h
 cases h3 : lastF (fun x => inL s.l x != hasP s.rt x) s.fr s.to with
 | some y =>
  rw [h3] at h
  have := last_bd h3
  simp at h
  omega
 | none =>
  rw [h3, Option.none_or] at h
  have := last_bd h
  omega
theorem beg_bd {s : St} (hs : OkS s) {x : Int} (h : begF s = some x) : -4398046511104 ≤ x ∧ x ≤ 17021827311905 := by
 have h1 := (rvB_of_pvB hs.lf).2.1
 have h2 := (rvB_of_pvB hs.rt).2.1
 have hc := commonM_bd h1 h2
 have hfr := hs.f1
 have hto := hs.t1
 have hft := hs.ft
 unfold begF at h
 cases h3 : firstF (fun x => inL s.l x != hasP s.lf x) s.fr s.to with
 | some y =>
  rw [h3] at h
  have := first_bd h3
  simp at h
  omega
 | none =>
  rw [h3, Option.none_or] at h
  have := first_bd h
  omega
end Wk
end Go.Proofs.YtmfdnbfjdhlonaaGreatDoor
namespace Go.Proofs.YtmfdnbfjdhlonaaGreatDoor
namespace Wk

theorem canon_snoc : ∀ {l : List Sp} {s : Sp}, Canon (l ++ [s]) ↔ Canon l ∧ s.1 < s.2 ∧ ∀ t ∈ l, t.2 < s.1
 | [], s => by simp [Canon]
 | t :: r, s => by
  have ih := canon_snoc (l := r) (s := s)
  have hm : ∀ u, u ∈ r ++ [s] ↔ u ∈ r ∨ u = s := fun u => by simp
  simp only [List.cons_append, Canon, ih, hm, List.mem_cons]
  constructor
  ·rintro ⟨h1, h2, h3, h4, h5⟩
   exact ⟨⟨h1, fun u hu => h2 u (.inl hu), h3⟩, h4, fun u hu => by
    rcases hu with rfl | hu
    ·exact h2 s (.inr rfl)
    ·exact h5 u hu⟩
  ·rintro ⟨⟨h1, h2, h3⟩, h4, h5⟩
   exact ⟨h1, fun u hu => by
    rcases hu with hu | rfl
    ·exact h2 u hu
    ·exact h5 t (.inl rfl), h3, h4, fun u hu => h5 u (.inr hu)⟩
theorem inL_snoc (l : List Sp) (s : Sp) (x : Int) : inL (l ++ [s]) x = (inL l x || (decide (s.1 ≤ x) && decide (x < s.2))) := by
 induction l with
 | nil => simp [inL]
 | cons t r ih => simp only [List.cons_append, inL, ih, Bool.or_assoc]
theorem getLast_snoc {l : List Sp} {s : Sp} (h : l.getLast? = some s) : l = l.dropLast ++ [s] := by
 have hne : l ≠ [] := by intro e; rw [e] at h; simp at h
 have := List.dropLast_concat_getLast hne
 rw [List.getLast?_eq_some_getLast hne] at h
 rw [Option.some.inj h] at this
 exact this.symm

structure RunsOf (h : Int → Bool) (f t : Int) (L : List Sp) : Prop where
 can : Canon L
 ins : ∀ s ∈ L, f ≤ s.1 ∧ s.2 ≤ t
 on : ∀ s ∈ L, ∀ x, s.1 ≤ x → x < s.2 → h x = true
 off : ∀ s ∈ L, s.2 < t → h s.2 = false
 all : ∀ x, f ≤ x → x < t → h x = true → inL L x = true

theorem memF_runs (h : Int → Bool) (f : Int) : ∀ n : Nat, RunsOf h f (f + n) (memF h f n)
 | 0 => ⟨trivial, fun s hs => by simp [memF] at hs, fun s hs => by simp [memF] at hs, fun s hs => by simp [memF] at hs, fun x h1 h2 => by omega⟩
 | n + 1 => by
  have ih := memF_runs h f n
  have e : f + ((n + 1 : Nat) : Int) = f + n + 1 := by omega
  rw [memF, e]
  by_cases hh : h (f + n) = true
  ·rw [if_pos hh]
   have new : (∀ s, (memF h f n).getLast? = some s → s.2 ≠ f + n) → RunsOf h f (f + n + 1) (memF h f n ++ [(f + n, f + n + 1)]) := by
    intro hl
    have hlt : ∀ s ∈ memF h f n, s.2 < f + n := by
     intro s hs
     have h1 := (ih.ins s hs).2
     rcases Int.lt_or_eq_of_le h1 with h2 | h2
     ·exact h2
     ·exfalso
      have hoff := ih.off
      obtain ⟨z, hz⟩ : ∃ z, (memF h f n).getLast? = some z := by
       cases hg : (memF h f n).getLast? with
       | some z => exact ⟨z, rfl⟩
       | none => rw [List.getLast?_eq_none_iff] at hg; rw [hg] at hs; simp at hs
      have hd := getLast_snoc hz
      have hc := ih.can
      rw [hd, canon_snoc] at hc
      rw [hd] at hs
      rcases List.mem_append.1 hs with h3 | h3
      ·have := hc.2.2 s h3
       have := hc.2.1
       have := (ih.ins z (by rw [hd]; simp)).2
       omega
      ·simp at h3; subst h3; exact hl s hz h2
    refine ⟨canon_snoc.2 ⟨ih.can, by show f + (n : Int) < f + n + 1; omega, hlt⟩, ?_, ?_, ?_, ?_⟩
    ·intro s hs
     rcases List.mem_append.1 hs with h3 | h3
     ·have := ih.ins s h3; omega
     ·simp at h3; subst h3; exact ⟨by show f ≤ f + (n : Int); omega, Int.le_refl _⟩
    ·intro s hs x h1 h2
     rcases List.mem_append.1 hs with h3 | h3
     ·exact ih.on s h3 x h1 h2
     ·simp at h3; subst h3
      obtain rfl : x = f + n := by simp only at h1 h2; omega
      exact hh
    ·intro s hs h1
     rcases List.mem_append.1 hs with h3 | h3
     ·exact ih.off s h3 (hlt s h3)
     ·simp at h3; subst h3; simp only at h1; omega
    ·intro x h1 h2 h3
     rw [inL_snoc]
     by_cases hx : x < f + n
     ·rw [ih.all x h1 hx h3]; rfl
     ·obtain rfl : x = f + n := by omega
      have : (decide ((f + (n : Int), f + (n : Int) + 1).1 ≤ f + n) && decide (f + (n : Int) < (f + (n : Int), f + (n : Int) + 1).2)) = true := by simp; omega
      rw [this, Bool.or_true]
   cases hg : (memF h f n).getLast? with
   | none => exact new (fun s hs => by rw [hg] at hs; cases hs)
   | some z =>
    simp only
    by_cases hz : z.2 = f + n
    ·rw [if_pos hz]
     have hd := getLast_snoc hg
     have hc := ih.can
     rw [hd, canon_snoc] at hc
     have hzm : z ∈ memF h f n := by rw [hd]; simp
     have hmem : ∀ s ∈ (memF h f n).dropLast, s ∈ memF h f n := fun s hs => List.dropLast_subset _ hs
     refine ⟨canon_snoc.2 ⟨hc.1, by show z.1 < f + (n : Int) + 1; have := hc.2.1; omega, hc.2.2⟩, ?_, ?_, ?_, ?_⟩
     ·intro s hs
      rcases List.mem_append.1 hs with h3 | h3
      ·have := ih.ins s (hmem s h3); omega
      ·simp at h3; subst h3; exact ⟨(ih.ins z hzm).1, Int.le_refl _⟩
     ·intro s hs x h1 h2
      rcases List.mem_append.1 hs with h3 | h3
      ·exact ih.on s (hmem s h3) x h1 h2
      ·simp at h3; subst h3
       by_cases hx : x < z.2
       ·exact ih.on z hzm x h1 hx
       ·obtain rfl : x = f + n := by simp only at h2; omega
        exact hh
     ·intro s hs h1
      rcases List.mem_append.1 hs with h3 | h3
      ·have h4 := hc.2.2 s h3
       have := hc.2.1
       exact ih.off s (hmem s h3) (by omega)
      ·simp at h3; subst h3; simp only at h1; omega
     ·intro x h1 h2 h3
      rw [inL_snoc]
      by_cases hx : x < f + n
      ·have h4 := ih.all x h1 hx h3
       rw [hd, inL_snoc] at h4
       simp only [Bool.or_eq_true, Bool.and_eq_true, decide_eq_true_eq] at h4 ⊢
       rcases h4 with h4 | ⟨h4, h5⟩
       ·exact .inl h4
       ·exact .inr ⟨h4, by omega⟩
      ·obtain rfl : x = f + n := by omega
       have := hc.2.1
       simp only [Bool.or_eq_true, Bool.and_eq_true, decide_eq_true_eq]
       exact .inr ⟨by omega, by omega⟩
    ·rw [if_neg hz]
     exact new (fun s hs => by rw [hg] at hs; cases hs; exact hz)
  ·rw [if_neg hh]
   have hh' : h (f + n) = false := by simpa using hh
   refine ⟨ih.can, fun s hs => by have := ih.ins s hs; omega, ih.on, fun s hs h1 => ?_, fun x h1 h2 h3 => ?_⟩
   ·have := (ih.ins s hs).2
    rcases Int.lt_or_eq_of_le this with h2 | h2
    ·exact ih.off s hs h2
    ·rw [h2]; exact hh'
   ·by_cases hx : x < f + n
    ·exact ih.all x h1 hx h3
    ·obtain rfl : x = f + n := by omega
     rw [hh'] at h3; cases h3

end Wk
end Go.Proofs.YtmfdnbfjdhlonaaGreatDoor
namespace Go.Proofs.YtmfdnbfjdhlonaaGreatDoor
namespace Wk

theorem inL_of_mem {l : List Sp} {s : Sp} {x : Int} (hs : s ∈ l) (h1 : s.1 ≤ x) (h2 : x < s.2) : inL l x = true := by
 induction l with
 | nil => simp at hs
 | cons t r ih =>
  simp only [inL, Bool.or_eq_true, Bool.and_eq_true, decide_eq_true_eq]
  rcases List.mem_cons.1 hs with rfl | hs
  ·exact .inl ⟨h1, h2⟩
  ·exact .inr (ih hs)

theorem canon_ext : ∀ {a b : List Sp}, Canon a → Canon b → (∀ x, inL a x = inL b x) → a = b
 | [], [], _, _, _ => rfl
 | [], t :: r, _, hb, h => by
  have h1 := hb.1
  have h2 := h t.1
  have h3 : inL (t :: r) t.1 = true := inL_of_mem (s := t) (by simp) (Int.le_refl _) h1
  rw [h3] at h2
  exact absurd h2 (by simp [inL])
 | s :: r, [], ha, _, h => by
  have h1 := ha.1
  have h2 := h s.1
  have h3 : inL (s :: r) s.1 = true := inL_of_mem (s := s) (by simp) (Int.le_refl _) h1
  rw [h3] at h2
  exact absurd h2 (by simp [inL])
 | s :: r, t :: q, ha, hb, h => by
  have ha1 := ha.1
  have hb1 := hb.1
  -- the first numbers
  have lowa : ∀ x, x < s.1 → inL (s :: r) x = false := fun x hx => inL_low fun u hu => by
   rcases List.mem_cons.1 hu with rfl | hu
   ·exact hx
   ·have := ha.2.1 u hu; omega
  have lowb : ∀ x, x < t.1 → inL (t :: q) x = false := fun x hx => inL_low fun u hu => by
   rcases List.mem_cons.1 hu with rfl | hu
   ·exact hx
   ·have := hb.2.1 u hu; omega
  have ina : ∀ x, s.1 ≤ x → x < s.2 → inL (s :: r) x = true := fun x h1 h2 => inL_of_mem (by simp) h1 h2
  have inb : ∀ x, t.1 ≤ x → x < t.2 → inL (t :: q) x = true := fun x h1 h2 => inL_of_mem (by simp) h1 h2
  have e1 : s.1 = t.1 := by
   rcases Int.lt_trichotomy s.1 t.1 with h1 | h1 | h1
   ·have := h s.1; rw [ina s.1 (Int.le_refl _) ha1, lowb s.1 h1] at this; cases this
   ·exact h1
   ·have := h t.1; rw [inb t.1 (Int.le_refl _) hb1, lowa t.1 h1] at this; cases this
  -- the end of the first run
  have enda : inL (s :: r) s.2 = false := by
   have h1 : inL r s.2 = false := inL_low fun u hu => ha.2.1 u hu
   simp only [inL, h1, Bool.or_false]
   simp
  have endb : inL (t :: q) t.2 = false := by
   have h1 : inL q t.2 = false := inL_low fun u hu => hb.2.1 u hu
   simp only [inL, h1, Bool.or_false]
   simp
  have e2 : s.2 = t.2 := by
   rcases Int.lt_trichotomy s.2 t.2 with h1 | h1 | h1
   ·have := h s.2; rw [enda, inb s.2 (by omega) h1] at this; cases this
   ·exact h1
   ·have := h t.2; rw [endb, ina t.2 (by omega) h1] at this; cases this
  have est : s = t := Prod.ext e1 e2
  subst est
  have hr : r = q := canon_ext ha.2.2 hb.2.2 fun x => by
   by_cases hx : s.2 < x
   ·have := h x
    have h0 : (decide (s.1 ≤ x) && decide (x < s.2)) = false := by simp; omega
    simpa only [inL, h0, Bool.false_or] using this
   ·rw [inL_low (fun u hu => by have := ha.2.1 u hu; omega), inL_low (fun u hu => by have := hb.2.1 u hu; omega)]
  rw [hr]
end Wk
end Go.Proofs.YtmfdnbfjdhlonaaGreatDoor
namespace Go.Proofs.YtmfdnbfjdhlonaaGreatDoor
namespace Wk

theorem stepC_eq (f t P : Int) (s : Sp) : stepC f t P s = stepD t P s ++ (if s.2 < P then [] else if 0 < f then [0] else []) := by
 unfold stepC stepD
 rw [List.append_assoc]
 congr 1
 by_cases h : s.2 < P
 ·rw [if_pos h, if_pos h, if_pos h, List.append_nil]
 ·rw [if_neg h, if_neg h, if_neg h, List.nil_append]

theorem flat_app {α : Type} (g h : Sp → List α) : ∀ l : List Sp, (l.flatMap fun s => g s ++ h s).Perm (l.flatMap g ++ l.flatMap h)
 | [] => List.Perm.refl _
 | s :: r => by
  have ih := flat_app g h r
  simp only [List.flatMap_cons]
  have h1 : (g s ++ h s ++ r.flatMap fun s => g s ++ h s).Perm (g s ++ h s ++ (r.flatMap g ++ r.flatMap h)) := List.Perm.append_left _ ih
  refine h1.trans ?_
  rw [List.append_assoc, List.append_assoc]
  refine List.Perm.append_left _ ?_
  rw [← List.append_assoc, ← List.append_assoc]
  exact List.Perm.append_right _ List.perm_append_comm

theorem flat_wrap {P f : Int} : ∀ {l : List Sp}, Canon l → (∀ s ∈ l, s.2 ≤ P) → (l.flatMap fun s => if s.2 < P then [] else if 0 < f then [0] else []) = (if l ≠ [] ∧ lastTo l = P ∧ 0 < f then [(0 : Int)] else [])
 | [], _, _ => by simp
 | [s], _, hi => by
  have h1 := hi s (by simp)
  have e : lastTo [s] = s.2 := rfl
  simp only [List.flatMap_cons, List.flatMap_nil, List.append_nil, e]
  by_cases h : s.2 < P
  ·rw [if_pos h, if_neg (by omega)]
  ·rw [if_neg h]
   by_cases hf : 0 < f
   ·rw [if_pos hf, if_pos ⟨by simp, by omega, hf⟩]
   ·rw [if_neg hf, if_neg (by omega)]
 | s :: t :: r, hc, hi => by
  have ih := flat_wrap (P := P) (f := f) hc.2.2 (fun u hu => hi u (by simp [hu]))
  have h1 := hc.2.1 t (by simp)
  have h2 := hc.2.2.1
  have h3 := hi t (by simp)
  have e : lastTo (s :: t :: r) = lastTo (t :: r) := by simp [lastTo]
  rw [List.flatMap_cons, ih, if_pos (by omega), List.nil_append, e]
  simp

theorem chg_perm {p : Per} (h : GoodP p) : (chg p.2 p.1).Perm (chg2 p.2 p.1) := by
 have e : chg p.2 p.1 = p.2.flatMap fun s => stepD (lastTo p.2) p.1 s ++ (if s.2 < p.1 then [] else if 0 < firstFr p.2 then [0] else []) := by
  unfold chg
  congr 1
  funext s
  exact stepC_eq _ _ _ s
 rw [e]
 refine (flat_app _ _ _).trans ?_
 rw [flat_wrap h.canon (fun s hs => (h.ins s hs).2)]
 unfold chg2 chgD
 refine List.perm_append_comm.trans (List.Perm.append_right _ ?_)
 have e2 : (p.2 ≠ [] ∧ lastTo p.2 = p.1 ∧ 0 < firstFr p.2) ↔ wrap0 p.2 p.1 = true := by
  unfold wrap0
  simp only [Bool.and_eq_true, decide_eq_true_eq]
  constructor
  ·rintro ⟨_, h1, h2⟩; exact ⟨h1, h2⟩
  ·rintro ⟨h1, h2⟩
   refine ⟨fun e => ?_, h1, h2⟩
   rw [e] at h2
   simp [firstFr] at h2
 by_cases hw : wrap0 p.2 p.1 = true
 ·rw [if_pos (e2.2 hw), if_pos hw]
 ·rw [if_neg (fun hh => hw (e2.1 hh)), if_neg hw]
theorem sort_chg {p : Per} (h : GoodP p) : sortI (chg p.2 p.1) = chg2 p.2 p.1 := by
 unfold sortI
 refine List.Perm.eq_of_pairwise (le := fun a b => decide (a ≤ b) = true) (fun a b _ _ h1 h2 => by simp only [decide_eq_true_eq] at h1 h2; omega)
  (List.pairwise_mergeSort (fun a b c h1 h2 => by simp only [decide_eq_true_eq] at *; omega) (fun a b => by simp only [Bool.or_eq_true, decide_eq_true_eq]; omega) _)
  ((chg2_sorted h).imp fun {a b} h => by simp only [decide_eq_true_eq]; omega) ((List.mergeSort_perm _ _).trans (chg_perm h))
end Wk
end Go.Proofs.YtmfdnbfjdhlonaaGreatDoor
namespace Go.Proofs.YtmfdnbfjdhlonaaGreatDoor
namespace Wk

def chT (D : List Int) (P j : Int) : Int := D.getD (j % (D.length : Int)).toNat 0 + j / (D.length : Int) * P

theorem chT_per {D : List Int} {P : Int} (h : 0 < D.length) (j k : Int) : chT D P (j + k * (D.length : Int)) = chT D P j + k * P := by
 have hn : (D.length : Int) ≠ 0 := by omega
 unfold chT
 rw [Int.add_mul_emod_self_right, Int.add_mul_ediv_right _ _ hn, Int.add_mul]
 omega

theorem chT_div {p : Per} (h : GoodP p) (h0 : 0 < (chg2 p.2 p.1).length) (j : Int) : chT (chg2 p.2 p.1) p.1 j / p.1 = j / ((chg2 p.2 p.1).length : Int) := by
 have hm := Int.emod_nonneg j (b := ((chg2 p.2 p.1).length : Int)) (by omega)
 have hm2 := Int.emod_lt_of_pos j (b := ((chg2 p.2 p.1).length : Int)) (by omega)
 have hd := (chg2_mem h _).1 (getD_mem (L := chg2 p.2 p.1) (j := (j % ((chg2 p.2 p.1).length : Int)).toNat) (by omega))
 unfold chT
 refine div_uniq h.pos ?_ ?_ <;> omega

theorem chT_edge {p : Per} (h : GoodP p) (h0 : 0 < (chg2 p.2 p.1).length) (j : Int) : hasP p (chT (chg2 p.2 p.1) p.1 j - 1) ≠ hasP p (chT (chg2 p.2 p.1) p.1 j) := by
 have hm := Int.emod_nonneg j (b := ((chg2 p.2 p.1).length : Int)) (by omega)
 have hm2 := Int.emod_lt_of_pos j (b := ((chg2 p.2 p.1).length : Int)) (by omega)
 have hD := getD_mem (L := chg2 p.2 p.1) (j := (j % ((chg2 p.2 p.1).length : Int)).toNat) (by omega)
 have hd := (chg2_mem h _).1 hD
 have e : chT (chg2 p.2 p.1) p.1 j - j / ((chg2 p.2 p.1).length : Int) * p.1 = (chg2 p.2 p.1).getD (j % ((chg2 p.2 p.1).length : Int)).toNat 0 := by unfold chT; omega
 rw [isChg_iff h _ (j / ((chg2 p.2 p.1).length : Int)) (by omega) (by omega), e]
 exact hD

theorem edge_chT {p : Per} (h : GoodP p) {y : Int} (hy : hasP p (y - 1) ≠ hasP p y) : 0 < (chg2 p.2 p.1).length ∧ ∃ j : Int, chT (chg2 p.2 p.1) p.1 j = y := by
 have hm := mod_lo y h.pos
 have := (isChg_iff h y (y / p.1) hm.1 hm.2).1 hy
 obtain ⟨i, hi, e⟩ := mem_getD this
 refine ⟨by omega, (i : Int) + y / p.1 * ((chg2 p.2 p.1).length : Int), ?_⟩
 rw [chT_per (by omega)]
 unfold chT
 rw [Int.emod_eq_of_lt (by omega) (by omega), Int.ediv_eq_zero_of_lt (by omega) (by omega)]
 rw [show ((i : Int)).toNat = i by omega, e]
 omega

theorem chT_next {p : Per} (h : GoodP p) (h0 : 0 < (chg2 p.2 p.1).length) (j : Int) : NextC (hasP p) (chT (chg2 p.2 p.1) p.1 j) (some (chT (chg2 p.2 p.1) p.1 (j + 1))) := by
 have hm := Int.emod_nonneg j (b := ((chg2 p.2 p.1).length : Int)) (by omega)
 have hm2 := Int.emod_lt_of_pos j (b := ((chg2 p.2 p.1).length : Int)) (by omega)
 have hdv := chT_div h h0 j
 have hmj : ((chg2 p.2 p.1).length : Int) * (j / ((chg2 p.2 p.1).length : Int)) + j % ((chg2 p.2 p.1).length : Int) = j := Int.mul_ediv_add_emod j _
 obtain ⟨r, hr⟩ : ∃ r : Nat, (j % ((chg2 p.2 p.1).length : Int)).toNat = r := ⟨_, rfl⟩
 obtain ⟨q, hq⟩ : ∃ q, j / ((chg2 p.2 p.1).length : Int) = q := ⟨_, rfl⟩
 have e0 : chT (chg2 p.2 p.1) p.1 j = (chg2 p.2 p.1).getD r 0 + q * p.1 := by unfold chT; rw [hr, hq]
 rw [hq] at hdv hmj
 have hrl : r < (chg2 p.2 p.1).length := by omega
 have hcomm : ((chg2 p.2 p.1).length : Int) * q = q * ((chg2 p.2 p.1).length : Int) := Int.mul_comm _ _
 by_cases hlast : r + 1 < (chg2 p.2 p.1).length
 ·have e1 : chT (chg2 p.2 p.1) p.1 (j + 1) = (chg2 p.2 p.1).getD (r + 1) 0 + q * p.1 := by
   have : j + 1 = ((r + 1 : Nat) : Int) + q * ((chg2 p.2 p.1).length : Int) := by omega
   rw [this, chT_per h0]
   unfold chT
   rw [Int.emod_eq_of_lt (by omega) (by omega), Int.ediv_eq_zero_of_lt (by omega) (by omega)]
   rw [show (((r + 1 : Nat) : Int)).toNat = r + 1 by omega]
   omega
  have hn := next_in h (x := chT (chg2 p.2 p.1) p.1 j) (k := r + 1) hlast (by
   rw [hdv, e0]
   have := sorted_getD (chg2_sorted h) (i := r) (j := r + 1) (by omega) hlast
   omega) (by
   intro i hi
   rw [hdv, e0]
   rcases Nat.lt_or_eq_of_le (Nat.lt_succ_iff.1 hi) with h1 | h1
   ·have := sorted_getD (chg2_sorted h) h1 hrl
    omega
   ·rw [h1]; omega)
  rw [hdv] at hn
  rw [e1, show (chg2 p.2 p.1).getD (r + 1) 0 + q * p.1 = q * p.1 + (chg2 p.2 p.1).getD (r + 1) 0 by omega]
  exact hn
 ·have hq1 : (q + 1) * p.1 = q * p.1 + p.1 := by rw [Int.add_mul]; omega
  have e1 : chT (chg2 p.2 p.1) p.1 (j + 1) = (chg2 p.2 p.1).getD 0 0 + (q + 1) * p.1 := by
   have h2 : (q + 1) * ((chg2 p.2 p.1).length : Int) = q * ((chg2 p.2 p.1).length : Int) + ((chg2 p.2 p.1).length : Int) := by rw [Int.add_mul]; omega
   have : j + 1 = 0 + (q + 1) * ((chg2 p.2 p.1).length : Int) := by omega
   rw [this, chT_per h0]
   unfold chT
   rw [Int.zero_emod, Int.zero_ediv]
   simp only [Int.toNat_zero, Int.zero_mul, Int.add_zero]
  have hn := next_out h (x := chT (chg2 p.2 p.1) p.1 j) (List.length_pos_iff.1 h0) (by
   intro i hi
   rw [hdv, e0]
   rcases Nat.lt_or_eq_of_le (show i ≤ r by omega) with h1 | h1
   ·have := sorted_getD (chg2_sorted h) h1 hrl
    omega
   ·rw [h1]; omega)
  rw [hdv] at hn
  rw [e1, hq1, show (chg2 p.2 p.1).getD 0 0 + (q * p.1 + p.1) = q * p.1 + p.1 + (chg2 p.2 p.1).getD 0 0 by omega]
  exact hn
theorem chT_lt {p : Per} (h : GoodP p) (h0 : 0 < (chg2 p.2 p.1).length) {i j : Int} (hij : i < j) : chT (chg2 p.2 p.1) p.1 i < chT (chg2 p.2 p.1) p.1 j := by
 obtain ⟨n, rfl⟩ : ∃ n : Nat, j = i + 1 + n := ⟨(j - i - 1).toNat, by omega⟩
 clear hij
 induction n with
 | zero => have := (chT_next h h0 i).1; rwa [show i + 1 + ((0 : Nat) : Int) = i + 1 by omega]
 | succ n ih =>
  have := (chT_next h h0 (i + 1 + n)).1
  rw [show i + 1 + ((n + 1 : Nat) : Int) = i + 1 + n + 1 by omega]
  omega
theorem chT_inj {p : Per} (h : GoodP p) (h0 : 0 < (chg2 p.2 p.1).length) {i j : Int} (e : chT (chg2 p.2 p.1) p.1 i = chT (chg2 p.2 p.1) p.1 j) : i = j := by
 rcases Int.lt_trichotomy i j with h1 | h1 | h1
 ·have := chT_lt h h0 h1; omega
 ·exact h1
 ·have := chT_lt h h0 h1; omega
theorem chT_flip {p : Per} (h : GoodP p) (h0 : 0 < (chg2 p.2 p.1).length) (j : Int) : hasP p (chT (chg2 p.2 p.1) p.1 (j + 1)) = !hasP p (chT (chg2 p.2 p.1) p.1 j) := by
 have hn := chT_next h h0 j
 have h1 := hn.1
 have h2 := hn.2.1
 have h3 := const_next hn (z := chT (chg2 p.2 p.1) p.1 (j + 1) - 1) (by omega) (fun k hk => by cases hk; omega)
 rw [h3] at h2
 cases h4 : hasP p (chT (chg2 p.2 p.1) p.1 (j + 1)) <;> cases h5 : hasP p (chT (chg2 p.2 p.1) p.1 j) <;> simp_all
theorem chT_two {p : Per} (h : GoodP p) (h0 : 0 < (chg2 p.2 p.1).length) (j : Int) : hasP p (chT (chg2 p.2 p.1) p.1 (j + 2)) = hasP p (chT (chg2 p.2 p.1) p.1 j) := by
 rw [show j + 2 = j + 1 + 1 by omega, chT_flip h h0, chT_flip h h0, Bool.not_not]
end Wk
end Go.Proofs.YtmfdnbfjdhlonaaGreatDoor
namespace Go.Proofs.YtmfdnbfjdhlonaaGreatDoor
namespace Wk

theorem chT_even {p : Per} (h : GoodP p) (h0 : 0 < (chg2 p.2 p.1).length) : ∀ (k : Nat) (j : Int), hasP p (chT (chg2 p.2 p.1) p.1 (j + 2 * k)) = hasP p (chT (chg2 p.2 p.1) p.1 j)
 | 0, j => by rw [show j + 2 * ((0 : Nat) : Int) = j by omega]
 | k + 1, j => by rw [show j + 2 * ((k + 1 : Nat) : Int) = j + 2 * k + 2 by omega, chT_two h h0]; exact chT_even h h0 k j
theorem chT_par {p : Per} (h : GoodP p) (h0 : 0 < (chg2 p.2 p.1).length) (j : Int) : hasP p (chT (chg2 p.2 p.1) p.1 j) = (if j % 2 = 0 then hasP p (chT (chg2 p.2 p.1) p.1 0) else !hasP p (chT (chg2 p.2 p.1) p.1 0)) := by
 have key : ∀ i : Int, i % 2 = 0 → hasP p (chT (chg2 p.2 p.1) p.1 i) = hasP p (chT (chg2 p.2 p.1) p.1 0) := by
  intro i hi
  rcases Int.le_total 0 i with h1 | h1
  ·have := chT_even h h0 (i / 2).toNat 0
   rwa [show (0 : Int) + 2 * ((i / 2).toNat : Int) = i by omega] at this
  ·have := chT_even h h0 ((-i) / 2).toNat i
   rw [show i + 2 * (((-i) / 2).toNat : Int) = 0 by omega] at this
   exact this.symm
 by_cases hj : j % 2 = 0
 ·rw [if_pos hj, key j hj]
 ·rw [if_neg hj, show j = (j - 1) + 1 by omega, chT_flip h h0, key (j - 1) (by omega)]
theorem chT_n_even {p : Per} (h : GoodP p) (h0 : 0 < (chg2 p.2 p.1).length) : ((chg2 p.2 p.1).length : Int) % 2 = 0 := by
 have h1 := chT_par h h0 ((chg2 p.2 p.1).length : Int)
 have h2 := chT_per (P := p.1) h0 0 1
 rw [Int.zero_add, Int.one_mul, Int.one_mul] at h2
 have h3 := hasP_period p h.pos (chT (chg2 p.2 p.1) p.1 0) 1
 rw [Int.one_mul] at h3
 rw [h2, h3] at h1
 apply Decidable.byContradiction
 intro hc
 rw [if_neg hc] at h1
 cases hasP p (chT (chg2 p.2 p.1) p.1 0) <;> simp at h1

theorem const_all {f : Int → Bool} (hf : ∀ y, f (y - 1) = f y) (x y : Int) : f x = f y := by
 rcases Int.le_total x y with h | h
 ·have := const_up (h := f) (y := x) (y - x).toNat (fun z _ _ => hf z)
  rw [show x + ((y - x).toNat : Int) = y by omega] at this
  exact this.symm
 ·have := const_up (h := f) (y := y) (x - y).toNat (fun z _ _ => hf z)
  rw [show y + ((x - y).toNat : Int) = x by omega] at this
  exact this
theorem no_edges {p : Per} (h : GoodP p) (h0 : (chg2 p.2 p.1).length = 0) (x y : Int) : hasP p x = hasP p y :=
 const_all (f := hasP p) (fun y => by
  apply Decidable.byContradiction
  intro hc
  have := (edge_chT h hc).1
  omega) x y

theorem next_shift {h : Int → Bool} {q x y : Int} (hs : ∀ z, h (z + q) = h z) (hn : NextC h x (some y)) : NextC h (x + q) (some (y + q)) := by
 obtain ⟨h1, h2, h3⟩ := hn
 refine ⟨by omega, ?_, fun z z1 z2 => ?_⟩
 ·rw [show y + q - 1 = (y - 1) + q by omega, hs, hs]; exact h2
 ·have := h3 (z - q) (by omega) (by omega)
  rw [← hs (z - q), ← hs (z - q - 1)] at this
  rwa [show z - q + q = z by omega, show z - q - 1 + q = z - 1 by omega] at this

theorem rep_shift {p : Per} (h : GoodP p) (h0 : 0 < (chg2 p.2 p.1).length) {q : Int} (hq : 1 ≤ q) (hs : ∀ z, hasP p (z + q) = hasP p z) :
  ∃ s : Nat, (∀ j : Nat, chT (chg2 p.2 p.1) p.1 j + q = chT (chg2 p.2 p.1) p.1 (j + s)) ∧ p.1 * s = q * ((chg2 p.2 p.1).length : Int) ∧ (s : Int) % 2 = 0 := by
 have he : hasP p (chT (chg2 p.2 p.1) p.1 0 + q - 1) ≠ hasP p (chT (chg2 p.2 p.1) p.1 0 + q) := by
  rw [show chT (chg2 p.2 p.1) p.1 0 + q - 1 = (chT (chg2 p.2 p.1) p.1 0 - 1) + q by omega, hs, hs]
  exact chT_edge h h0 0
 obtain ⟨_, s, hse⟩ := edge_chT h he
 have hs0 : 0 < s := by
  rcases Int.lt_trichotomy s 0 with h1 | h1 | h1
  ·have := chT_lt h h0 h1; omega
  ·rw [h1] at hse; omega
  ·exact h1
 obtain ⟨s, rfl⟩ : ∃ n : Nat, s = n := ⟨s.toNat, by omega⟩
 have key : ∀ j : Nat, chT (chg2 p.2 p.1) p.1 j + q = chT (chg2 p.2 p.1) p.1 (j + s) := by
  intro j
  induction j with
  | zero => rw [show ((0 : Nat) : Int) + (s : Int) = s by omega]; exact hse.symm
  | succ j ih =>
   have n1 := next_shift hs (chT_next h h0 j)
   rw [ih] at n1
   have n2 := chT_next h h0 ((j : Int) + s)
   have := next_uniq n1 n2
   rw [show ((j + 1 : Nat) : Int) = (j : Int) + 1 by omega, show (j : Int) + 1 + (s : Int) = j + s + 1 by omega]
   exact Option.some.inj this
 refine ⟨s, key, ?_, ?_⟩
 ·have iter : ∀ m : Nat, chT (chg2 p.2 p.1) p.1 0 + q * m = chT (chg2 p.2 p.1) p.1 ((m * s : Nat) : Int) := by
   intro m
   induction m with
   | zero => simp
   | succ m ih =>
    have := key (m * s)
    rw [← ih] at this
    rw [show q * ((m + 1 : Nat) : Int) = q * m + q by rw [Int.natCast_add, Int.mul_add]; simp]
    rw [show ((((m + 1) * s : Nat)) : Int) = ((m * s : Nat) : Int) + s by rw [Nat.add_mul]; simp]
    omega
  have i1 := iter p.1.toNat
  have hP : ((p.1.toNat : Nat) : Int) = p.1 := by have := h.pos; omega
  rw [hP] at i1
  have i2 := chT_per (P := p.1) h0 0 q
  rw [Int.zero_add] at i2
  rw [← i2] at i1
  have := chT_inj h h0 i1
  rw [Int.natCast_mul, hP] at this
  exact this.symm
 ·have h1 := chT_par h h0 (s : Int)
  have h2 := hs (chT (chg2 p.2 p.1) p.1 0)
  rw [← hse] at h2
  apply Decidable.byContradiction
  intro hc
  rw [if_neg hc, h2] at h1
  cases hasP p (chT (chg2 p.2 p.1) p.1 0) <;> simp at h1

theorem rep_iff {p : Per} (h : GoodP p) {q : Int} (hq : 1 ≤ q) (hqP : q ≤ p.1) : repB p.2 p.1 q = true ↔ ∀ z, hasP p (z + q) = hasP p z := by
 have hP := h.pos
 unfold repB
 rw [sort_chg h]
 obtain ⟨D, hD⟩ : ∃ D, chg2 p.2 p.1 = D := ⟨_, rfl⟩
 by_cases h0 : D.length = 0
 ·have e : (D.length == 0) = true := by simpa using h0
  simp only [hD, e, Bool.true_or, true_iff]
  exact fun z => no_edges h (by rw [hD]; exact h0) _ _
 ·have hn : 0 < (chg2 p.2 p.1).length := by rw [hD]; omega
  have hdb : ∀ i, i < D.length → 0 ≤ D.getD i 0 ∧ D.getD i 0 < p.1 := fun i hi => by
   have := (chg2_mem h _).1 (getD_mem (L := chg2 p.2 p.1) (j := i) (by rw [hD]; exact hi))
   rw [hD] at this
   exact ⟨this.1, this.2.1⟩
  have hbase : ∀ i : Nat, i < D.length → chT D p.1 i = D.getD i 0 := fun i hi => by
   unfold chT
   rw [Int.emod_eq_of_lt (by omega) (by omega), Int.ediv_eq_zero_of_lt (by omega) (by omega), show ((i : Int)).toNat = i by omega]
   omega
  have e : (D.length == 0) = false := by simpa using h0
  simp only [hD, e, Bool.false_or, Bool.and_eq_true, beq_iff_eq, List.all_eq_true, List.mem_range]
  constructor
  ·rintro ⟨⟨hs1, hs2⟩, hs3⟩
   obtain ⟨s, hs⟩ : ∃ s, (D.length : Int) * q / p.1 = s := ⟨_, rfl⟩
   rw [hs] at hs1 hs2 hs3
   have step0 : ∀ i : Nat, i < D.length → ∃ t : Int, chT D p.1 i + q = chT D p.1 ((i : Int) + s + t * D.length) := by
    intro i hi
    have h3 := hs3 i hi
    unfold repOk at h3
    rw [beq_iff_eq] at h3
    refine ⟨(if p.1 ≤ D.getD i 0 + q then 1 else 0) - ((i : Int) + s) / D.length, ?_⟩
    rw [chT_per (by omega), hbase i hi]
    unfold chT
    rw [h3, Int.sub_mul]
    unfold wrapC
    split
    ·rw [Int.one_mul]; omega
    ·rw [Int.zero_mul]; omega
   have step : ∀ j : Int, ∃ t : Int, chT D p.1 j + q = chT D p.1 (j + s + t * D.length) := by
    intro j
    have hm := Int.emod_nonneg j (b := (D.length : Int)) (by omega)
    have hm2 := Int.emod_lt_of_pos j (b := (D.length : Int)) (by omega)
    have hmj : (D.length : Int) * (j / (D.length : Int)) + j % (D.length : Int) = j := Int.mul_ediv_add_emod j _
    have hcm : (D.length : Int) * (j / (D.length : Int)) = j / (D.length : Int) * (D.length : Int) := Int.mul_comm _ _
    obtain ⟨t, ht⟩ := step0 (j % (D.length : Int)).toNat (by omega)
    refine ⟨t, ?_⟩
    have e1 := chT_per (D := D) (P := p.1) (by omega) (((j % (D.length : Int)).toNat : Nat) : Int) (j / (D.length : Int))
    have e2 := chT_per (D := D) (P := p.1) (by omega) ((((j % (D.length : Int)).toNat : Nat) : Int) + s + t * D.length) (j / (D.length : Int))
    rw [show (((j % (D.length : Int)).toNat : Nat) : Int) + j / (D.length : Int) * (D.length : Int) = j by omega] at e1
    rw [show (((j % (D.length : Int)).toNat : Nat) : Int) + s + t * (D.length : Int) + j / (D.length : Int) * (D.length : Int) = j + s + t * (D.length : Int) by omega] at e2
    omega
   have edges : ∀ y, hasP p (y - 1) ≠ hasP p y ↔ hasP p (y + q - 1) ≠ hasP p (y + q) := by
    intro y
    constructor
    ·intro hy
     obtain ⟨_, j, hj⟩ := edge_chT h hy
     rw [hD] at hj
     obtain ⟨t, ht⟩ := step j
     rw [← hj, ht, ← hD]
     exact chT_edge h hn _
    ·intro hy
     obtain ⟨_, j, hj⟩ := edge_chT h hy
     rw [hD] at hj
     obtain ⟨t, ht⟩ := step (j - s)
     have e1 := chT_per (D := D) (P := p.1) (by omega) j t
     rw [show j - s + s + t * (D.length : Int) = j + t * (D.length : Int) by omega, e1] at ht
     have e2 := chT_per (D := D) (P := p.1) (by omega) (j - s) (-t)
     rw [Int.neg_mul, Int.neg_mul] at e2
     have hy2 : y = chT D p.1 (j - s + -(t * (D.length : Int))) := by rw [e2]; omega
     rw [hy2, ← hD]
     exact chT_edge h hn _
   have hconst := const_all (f := fun x => hasP p (x + q) == hasP p x) (fun y => by
    have := edges y
    show (hasP p (y - 1 + q) == hasP p (y - 1)) = (hasP p (y + q) == hasP p y)
    rw [show y - 1 + q = y + q - 1 by omega]
    cases h1 : hasP p (y - 1) <;> cases h2 : hasP p y <;> cases h3 : hasP p (y + q - 1) <;> cases h4 : hasP p (y + q) <;> simp_all)
   have hat : (hasP p (chT D p.1 0 + q) == hasP p (chT D p.1 0)) = true := by
    obtain ⟨t, ht⟩ := step 0
    rw [ht, ← hD, chT_par h hn]
    have hne := chT_n_even h hn
    rw [if_pos]
    ·simp
    ·have := Int.mul_emod t ((chg2 p.2 p.1).length : Int) 2
     rw [hne] at this
     omega
   intro z
   have := hconst z (chT D p.1 0)
   rw [hat] at this
   simpa using this
  ·intro hz
   obtain ⟨s, k1, k2, k3⟩ := rep_shift h hn hq hz
   rw [hD] at k1 k2
   have hs : (D.length : Int) * q / p.1 = s := by
    rw [Int.mul_comm, ← k2]
    exact Int.mul_ediv_cancel_left _ (by omega)
   rw [hs]
   refine ⟨⟨by rw [Int.mul_comm (s : Int), k2, Int.mul_comm], k3⟩, fun i hi => ?_⟩
   unfold repOk
   rw [beq_iff_eq]
   have h1 := k1 i
   rw [hbase i hi] at h1
   have hm := Int.emod_nonneg ((i : Int) + s) (b := (D.length : Int)) (by omega)
   have hm2 := Int.emod_lt_of_pos ((i : Int) + s) (b := (D.length : Int)) (by omega)
   have hb1 := hdb i hi
   have hb2 := hdb (((i : Int) + s) % (D.length : Int)).toNat (by omega)
   unfold chT at h1
   obtain ⟨m, hm0⟩ : ∃ m, ((i : Int) + s) / (D.length : Int) = m := ⟨_, rfl⟩
   rw [hm0] at h1
   obtain ⟨d, hd⟩ : ∃ d, D.getD (((i : Int) + s) % (D.length : Int)).toNat 0 = d := ⟨_, rfl⟩
   rw [hd] at h1 hb2 ⊢
   have hm01 : m = 0 ∨ m = 1 := by
    rcases Int.lt_or_le m 0 with c1 | c1
    ·have : m * p.1 ≤ -1 * p.1 := Int.mul_le_mul_of_nonneg_right (by omega) (by omega)
     omega
    ·rcases Int.lt_or_le m 2 with c2 | c2
     ·omega
     ·have : 2 * p.1 ≤ m * p.1 := Int.mul_le_mul_of_nonneg_right c2 (by omega)
      omega
   unfold wrapC
   rcases hm01 with rfl | rfl
   ·rw [Int.zero_mul] at h1; rw [if_neg (by omega)]; omega
   ·rw [Int.one_mul] at h1; rw [if_pos (by omega)]; omega
end Wk
end Go.Proofs.YtmfdnbfjdhlonaaGreatDoor
namespace Go.Proofs.YtmfdnbfjdhlonaaGreatDoor
namespace Wk

def ruleB (kind : Int) (a b : Bool) : Bool := if kind = 0 then a || b else if kind = 1 then a && b else a && !b
end Wk
end Go.Proofs.YtmfdnbfjdhlonaaGreatDoor
namespace Go.Proofs.YtmfdnbfjdhlonaaGreatDoor
namespace Wk

def hL (kind : Int) (a b : List Sp) (x : Int) : Bool := ruleB kind (inL a x) (inL b x)
theorem inside_of_in {L : List Sp} {P : Int} (hc : Canon L) (h : ∀ x, inL L x = true → 0 ≤ x ∧ x < P) : inside P L := by
 intro s hs
 have hp := canon_pos hc s hs
 have h1 := h s.1 (inL_of_mem hs (Int.le_refl _) hp)
 have h2 := h (s.2 - 1) (inL_of_mem hs (by omega) (by omega))
 omega
end Wk
end Go.Proofs.YtmfdnbfjdhlonaaGreatDoor
namespace Go.Proofs.YtmfdnbfjdhlonaaGreatDoor
namespace Wk

def clipM (l : List Sp) (f t : Int) : List Sp := (l.filter fun s => decide (max s.1 f < min s.2 t)).map fun s => (max s.1 f, min s.2 t)
theorem clip_cons (s : Sp) (r : List Sp) (f t : Int) : clipM (s :: r) f t = (if max s.1 f < min s.2 t then [(max s.1 f, min s.2 t)] else []) ++ clipM r f t := by
 unfold clipM
 by_cases h : max s.1 f < min s.2 t
 ·rw [List.filter_cons_of_pos (by simpa using h), if_pos h]; rfl
 ·rw [List.filter_cons_of_neg (by simpa using h), if_neg h]; rfl
theorem clip_mem {l : List Sp} {f t : Int} {u : Sp} (h : u ∈ clipM l f t) : ∃ s ∈ l, u = (max s.1 f, min s.2 t) ∧ max s.1 f < min s.2 t := by
 unfold clipM at h
 obtain ⟨s, hs, rfl⟩ := List.mem_map.1 h
 obtain ⟨h1, h2⟩ := List.mem_filter.1 hs
 exact ⟨s, h1, rfl, by simpa using h2⟩
theorem clip_canon : ∀ {l : List Sp} {f t : Int}, Canon l → Canon (clipM l f t)
 | [], _, _, _ => trivial
 | s :: r, f, t, hc => by
  obtain ⟨h1, h2, h3⟩ := hc
  have ih := clip_canon (f := f) (t := t) h3
  rw [clip_cons]
  by_cases h : max s.1 f < min s.2 t
  ·rw [if_pos h]
   refine ⟨h, fun u hu => ?_, ih⟩
   obtain ⟨v, hv, rfl, _⟩ := clip_mem hu
   have := h2 v hv
   simp only
   omega
  ·rw [if_neg h]; exact ih
theorem clip_in : ∀ (l : List Sp) (f t x : Int), inL (clipM l f t) x = ((decide (f ≤ x) && decide (x < t)) && inL l x)
 | [], _, _, _ => by simp [clipM, inL]
 | s :: r, f, t, x => by
  rw [clip_cons]
  have ih := clip_in r f t x
  by_cases h : max s.1 f < min s.2 t
  ·rw [if_pos h]
   show ((decide (max s.1 f ≤ x) && decide (x < min s.2 t)) || inL (clipM r f t) x) = _
   rw [ih, Bool.eq_iff_iff]
   simp only [inL, Bool.or_eq_true, Bool.and_eq_true, decide_eq_true_eq]
   constructor
   ·rintro (h1 | h1)
    ·exact ⟨by omega, .inl (by omega)⟩
    ·exact ⟨h1.1, .inr h1.2⟩
   ·rintro ⟨h1, h2 | h2⟩
    ·exact .inl (by omega)
    ·exact .inr ⟨h1, h2⟩
  ·rw [if_neg h, List.nil_append, ih, Bool.eq_iff_iff]
   simp only [inL, Bool.or_eq_true, Bool.and_eq_true, decide_eq_true_eq]
   constructor
   ·rintro h1; exact ⟨h1.1, .inr h1.2⟩
   ·rintro ⟨h1, h2 | h2⟩
    ·omega
    ·exact ⟨h1, h2⟩
def farB (l : List Sp) (P : Int) : Nat → Int
 | 0 => P
 | j + 1 => if P % (j + 1 : Int) = 0 ∧ repB l P (P / (j + 1 : Int)) = true then P / (j + 1 : Int) else farB l P j
theorem loop_skip {l : List Sp} {P : Int} : ∀ {j N : Nat}, j ≤ N → (∀ q : Int, 1 ≤ q → q ≤ j → q ≤ P / q ∧ ¬(P % q = 0 ∧ repB l P q = true)) → leastLoop l P N 1 P = leastLoop l P (N - j) (j + 1) (farB l P j)
 | 0, N, _, _ => rfl
 | j + 1, N, hN, h => by
  rw [loop_skip (j := j) (by omega) fun q h1 h2 => h q h1 (by omega)]
  have hq := h (j + 1) (by omega) (by omega)
  have e : N - j = (N - (j + 1)) + 1 := by omega
  rw [e]
  have hq1 := hq.1
  have hq2 := hq.2
  simp only [farB]
  by_cases h1 : P % ((j : Int) + 1) = 0
  ·have h2 : repB l P ((j : Int) + 1) = false := by
    cases hr : repB l P ((j : Int) + 1) with
    | false => rfl
    | true => exact absurd ⟨h1, hr⟩ hq2
   cases h3 : repB l P (P / ((j : Int) + 1)) with
   | true => rw [leastLoop_far hq1 h1 h2 h3, if_pos ⟨h1, rfl⟩]; rfl
   | false => rw [leastLoop_near hq1 h1 h2 h3, if_neg (by simp)]; rfl
  ·rw [leastLoop_skip hq1 h1, if_neg (fun hh => h1 hh.1)]; rfl
theorem sq_le {P q : Int} (hq : 1 ≤ q) : q * q ≤ P ↔ q ≤ P / q := (Int.le_ediv_iff_mul_le (by omega)).symm
theorem least_hit {l : List Sp} {P : Int} {j : Nat} (hP : 1 ≤ P) (h : ∀ q : Int, 1 ≤ q → q ≤ j → ¬(P % q = 0 ∧ repB l P q = true)) (hs : ((j : Int) + 1) * (j + 1) ≤ P) (h1 : P % ((j : Int) + 1) = 0) (h2 : repB l P ((j : Int) + 1) = true) :
  leastM l P = (j : Int) + 1 := by
 have hjP : (j : Int) + 1 ≤ P := by
  have : ((j : Int) + 1) * 1 ≤ ((j : Int) + 1) * (j + 1) := Int.mul_le_mul_of_nonneg_left (by omega) (by omega)
  omega
 unfold leastM
 rw [loop_skip (j := j) (by omega) fun q hq1 hq2 => ⟨(sq_le hq1).1 (by
  have a1 : q * q ≤ ((j : Int) + 1) * q := Int.mul_le_mul_of_nonneg_right (by omega) (by omega)
  have a2 : ((j : Int) + 1) * q ≤ ((j : Int) + 1) * (j + 1) := Int.mul_le_mul_of_nonneg_left (by omega) (by omega)
  omega), h q hq1 hq2⟩]
 have e : P.toNat - j = (P.toNat - j - 1) + 1 := by omega
 rw [e]
 exact leastLoop_hit ((sq_le (by omega)).1 hs) h1 h2
theorem least_far {l : List Sp} {P : Int} {j : Nat} (h : ∀ q : Int, 1 ≤ q → q * q ≤ P → ¬(P % q = 0 ∧ repB l P q = true)) (hj : j = 0 ∨ (j : Int) * j ≤ P) (hs : ¬ ((j : Int) + 1) * (j + 1) ≤ P) :
  leastM l P = farB l P j := by
 have hjP : (j : Int) ≤ P ∨ j = 0 := by
  rcases hj with rfl | hj
  ·right; rfl
  ·by_cases h0 : j = 0
   ·right; exact h0
   ·left
    have : (j : Int) * 1 ≤ (j : Int) * j := Int.mul_le_mul_of_nonneg_left (by omega) (by omega)
    omega
 unfold leastM
 rw [loop_skip (j := j) (by omega) fun q hq1 hq2 => by
  have hqq : q * q ≤ P := by
   rcases hj with rfl | hj
   ·omega
   ·have a1 : q * q ≤ (j : Int) * q := Int.mul_le_mul_of_nonneg_right (by omega) (by omega)
    have a2 : (j : Int) * q ≤ (j : Int) * j := Int.mul_le_mul_of_nonneg_left (by omega) (by omega)
    omega
  exact ⟨(sq_le hq1).1 hqq, h q hq1 hqq⟩]
 exact leastLoop_stop fun hh => hs ((sq_le (by omega)).2 hh)
end Wk
end Go.Proofs.YtmfdnbfjdhlonaaGreatDoor
namespace Go.Proofs.YtmfdnbfjdhlonaaGreatDoor
namespace Wk

/-! the last and the first difference, from the differences in [0, m) -/
/-! a valid set has no lesser period -/
theorem root_ex : ∀ n : Nat, ∃ j : Nat, j * j ≤ n ∧ n < (j + 1) * (j + 1)
 | 0 => ⟨0, by omega, by omega⟩
 | n + 1 => by
  obtain ⟨j, h1, h2⟩ := root_ex n
  by_cases h : n + 1 < (j + 1) * (j + 1)
  ·exact ⟨j, by omega, h⟩
  ·refine ⟨j + 1, by omega, ?_⟩
   have : (j + 1 + 1) * (j + 1 + 1) = (j + 1) * (j + 1) + 2 * (j + 1) + 1 := by
    simp only [Nat.add_mul, Nat.mul_add]; omega
   omega
theorem least_ex (H : Int → Prop) : ∀ n : Nat, (∃ q : Int, 1 ≤ q ∧ q ≤ n ∧ H q) → ∃ j : Nat, (∀ q : Int, 1 ≤ q → q ≤ j → ¬ H q) ∧ H ((j : Int) + 1)
 | 0, h => by obtain ⟨q, h1, h2, _⟩ := h; omega
 | n + 1, h => by
  by_cases hs : ∃ q : Int, 1 ≤ q ∧ q ≤ n ∧ H q
  ·exact least_ex H n hs
  ·obtain ⟨q, h1, h2, h3⟩ := h
   have e : q = (n : Int) + 1 := by
    rcases (by omega : q ≤ n ∨ q = (n : Int) + 1) with h | h
    ·exact absurd ⟨q, h1, h, h3⟩ hs
    ·exact h
   subst e
   exact ⟨n, fun q a b c => hs ⟨q, a, b, c⟩, h3⟩
theorem per_mul {h : Int → Bool} {a : Int} (ha : ∀ x, h (x + a) = h x) : ∀ (k : Nat) (x : Int), h (x + k * a) = h x
 | 0, x => by simp
 | k + 1, x => by
  have e : x + ((k + 1 : Nat) : Int) * a = x + k * a + a := by rw [Int.natCast_add, Int.add_mul]; omega
  rw [e, ha, per_mul ha k x]
end Wk
end Go.Proofs.YtmfdnbfjdhlonaaGreatDoor
namespace Go.Proofs.YtmfdnbfjdhlonaaGreatDoor
namespace Wk

end Wk
end Go.Proofs.YtmfdnbfjdhlonaaGreatDoor
namespace Go.Proofs.YtmfdnbfjdhlonaaGreatDoor
namespace Wk

end Wk
end Go.Proofs.YtmfdnbfjdhlonaaGreatDoor
namespace Go.Proofs.YtmfdnbfjdhlonaaGreatDoor
namespace Wk

end Wk
end Go.Proofs.YtmfdnbfjdhlonaaGreatDoor
