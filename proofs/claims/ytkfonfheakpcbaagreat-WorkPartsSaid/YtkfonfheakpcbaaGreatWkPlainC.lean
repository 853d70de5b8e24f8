/- Plain mathematics of the changes of lists and of periodic sets. No conditions. -/
import Derived.Test.YtkfonfheakpcbaaGreatWkPlainB
namespace Go.Proofs.YtkfonfheakpcbaaGreat
namespace Wk

def NextC (h : Int → Bool) (x : Int) : Option Int → Prop
  | some y => x < y ∧ h (y - 1) ≠ h y ∧ ∀ z, x < z → z < y → h (z - 1) = h z
  | none => ∀ z, x < z → h (z - 1) = h z
def PrevC (h : Int → Bool) (x : Int) : Option Int → Prop
  | some y => y ≤ x ∧ h (y - 1) ≠ h y ∧ ∀ z, y < z → z ≤ x → h (z - 1) = h z
  | none => ∀ z, z ≤ x → h (z - 1) = h z

/-- a place at which a canonical list changes is an end of one of its runs -/
theorem edge_iff : ∀ {l : List Sp} (c : Int), Canon l → (inL l (c - 1) ≠ inL l c ↔ ∃ s ∈ l, c = s.1 ∨ c = s.2)
  | [], c, _ => by simp [inL]
  | s :: r, c, hc => by
    have ih := edge_iff (l := r) c hc.2.2
    have h0 := hc.1
    by_cases h1 : c ≤ s.2
    · have e1 : inL r (c - 1) = false := inL_low (fun t ht => by have := hc.2.1 t ht; omega)
      have e2 : inL r c = false := inL_low (fun t ht => by have := hc.2.1 t ht; omega)
      simp only [inL, e1, e2, Bool.or_false, List.mem_cons, exists_eq_or_imp]
      have e3 : ¬ ∃ t ∈ r, c = t.1 ∨ c = t.2 := by
        rintro ⟨t, ht, h⟩
        have := hc.2.1 t ht
        have := canon_pos hc.2.2 t ht
        omega
      simp only [e3, or_false]
      by_cases ha : c = s.1
      · subst ha
        have f1 : (decide (s.1 ≤ s.1 - 1) && decide (s.1 - 1 < s.2)) = false := by simp; omega
        have f2 : (decide (s.1 ≤ s.1) && decide (s.1 < s.2)) = true := by simp; omega
        rw [f1, f2]; simp
      · by_cases hb : c = s.2
        · subst hb
          have f1 : (decide (s.1 ≤ s.2 - 1) && decide (s.2 - 1 < s.2)) = true := by simp; omega
          have f2 : (decide (s.1 ≤ s.2) && decide (s.2 < s.2)) = false := by simp
          rw [f1, f2]; simp
        · have : (decide (s.1 ≤ c - 1) && decide (c - 1 < s.2)) = (decide (s.1 ≤ c) && decide (c < s.2)) := by
            rw [Bool.eq_iff_iff]; simp; omega
          rw [this]
          simp [ha, hb]
    · have e1 : (decide (s.1 ≤ c - 1) && decide (c - 1 < s.2)) = false := by simp; omega
      have e2 : (decide (s.1 ≤ c) && decide (c < s.2)) = false := by simp; omega
      simp only [inL, e1, e2, Bool.false_or, ih, List.mem_cons, exists_eq_or_imp]
      constructor
      · exact Or.inr
      · rintro (h | h)
        · omega
        · exact h

def stepD (t P : Int) (s : Sp) : List Int := (if 0 < s.1 ∨ t < P then [s.1] else []) ++ (if s.2 < P then [s.2] else [])
def wrap0 (l : List Sp) (P : Int) : Bool := decide (lastTo l = P) && decide (0 < firstFr l)
def chgD (l : List Sp) (t P : Int) : List Int := l.flatMap (stepD t P)
/-- timeset's cycle.changes -/
def chg2 (l : List Sp) (P : Int) : List Int := (if wrap0 l P then [0] else []) ++ chgD l (lastTo l) P

theorem stepD_mem {t P : Int} {s : Sp} {x : Int} : x ∈ stepD t P s ↔ (x = s.1 ∧ (0 < s.1 ∨ t < P)) ∨ (x = s.2 ∧ s.2 < P) := by
  unfold stepD
  simp only [List.mem_append]
  split <;> split <;> simp_all <;> (intros; omega)
theorem chgD_mem {l : List Sp} {t P x : Int} : x ∈ chgD l t P ↔ ∃ s ∈ l, (x = s.1 ∧ (0 < s.1 ∨ t < P)) ∨ (x = s.2 ∧ s.2 < P) := by
  unfold chgD
  simp only [List.mem_flatMap, stepD_mem]
theorem chgD_sorted : ∀ {l : List Sp} (t P : Int), Canon l → (chgD l t P).Pairwise (· < ·)
  | [], _, _, _ => List.Pairwise.nil
  | s :: r, t, P, hc => by
    have ih := chgD_sorted (l := r) t P hc.2.2
    have e : chgD (s :: r) t P = stepD t P s ++ chgD r t P := rfl
    rw [e, List.pairwise_append]
    refine ⟨?_, ih, ?_⟩
    · have h0 := hc.1
      unfold stepD
      split <;> split <;> simp
      exact h0
    · intro a ha b hb
      have h0 := hc.1
      rw [stepD_mem] at ha
      rw [chgD_mem] at hb
      obtain ⟨u, hu, hb⟩ := hb
      have h1 := hc.2.1 u hu
      have h2 := canon_pos hc.2.2 u hu
      omega

theorem hasP_period (p : Per) (hP : 1 ≤ p.1) (x k : Int) : hasP p (x + k * p.1) = hasP p x := by
  unfold hasP
  rw [Int.add_mul_ediv_right _ _ (by omega), Int.add_mul]
  congr 1
  omega
theorem hasP_in (p : Per) (_ : 1 ≤ p.1) {x : Int} (h0 : 0 ≤ x) (h1 : x < p.1) : hasP p x = inL p.2 x := by
  unfold hasP
  rw [Int.ediv_eq_zero_of_lt h0 h1]; simp

theorem mem_last {l : List Sp} (h : 0 < l.length) : l.getD (l.length - 1) (0, 0) ∈ l := by
  rw [List.getD_eq_getElem?_getD, List.getElem?_eq_getElem (by omega)]; exact List.getElem_mem _
theorem mem_first {l : List Sp} (h : 0 < l.length) : l.getD 0 (0, 0) ∈ l := by
  rw [List.getD_eq_getElem?_getD, List.getElem?_eq_getElem h]; exact List.getElem_mem _
/-- the ends of a canonical list -/
theorem canon_first {l : List Sp} (hc : Canon l) {s : Sp} (hs : s ∈ l) : firstFr l ≤ s.1 := by
  cases l with
  | nil => cases hs
  | cons u r =>
    simp at hs
    unfold firstFr
    simp only [List.getD_cons_zero]
    rcases hs with rfl | hs
    · omega
    · have := hc.2.1 s hs; have := hc.1; omega
theorem canon_last : ∀ {l : List Sp} (_ : Canon l) {s : Sp} (_ : s ∈ l), s.2 ≤ lastTo l
  | [], _, _, hs => by cases hs
  | [u], _, s, hs => by simp at hs; subst hs; simp [lastTo]
  | u :: t :: r, hc, s, hs => by
    have e : lastTo (u :: t :: r) = lastTo (t :: r) := by simp [lastTo]
    rw [e]
    simp at hs
    rcases hs with rfl | hs
    · have h1 := hc.2.1 t (by simp)
      have h2 := canon_last hc.2.2 (s := t) (by simp)
      have h3 := hc.2.2.1
      omega
    · exact canon_last hc.2.2 (by simpa using hs)

theorem inL_first {l : List Sp} (hc : Canon l) (hi : ∀ s ∈ l, 0 ≤ s.1) : inL l 0 = (decide (0 < l.length) && decide (firstFr l = 0)) := by
  cases l with
  | nil => rfl
  | cons u r =>
    have h0 := hc.1
    have h1 := hi u (by simp)
    have e : inL r 0 = false := inL_low (fun t ht => by have := hc.2.1 t ht; omega)
    simp only [inL, e, Bool.or_false, firstFr, List.getD_cons_zero, List.length_cons]
    rw [Bool.eq_iff_iff]; simp; omega
theorem inL_last {l : List Sp} {P : Int} (hc : Canon l) (hi : ∀ s ∈ l, s.2 ≤ P) : inL l (P - 1) = (decide (0 < l.length) && decide (lastTo l = P)) := by
  induction l with
  | nil => rfl
  | cons u r ih =>
    have h0 := hc.1
    have h1 := hi u (by simp)
    cases r with
    | nil =>
      simp only [inL, Bool.or_false, lastTo]
      rw [Bool.eq_iff_iff]; simp; omega
    | cons t r =>
      have e : lastTo (u :: t :: r) = lastTo (t :: r) := by simp [lastTo]
      have ih' := ih hc.2.2 (fun s hs => hi s (by simp [hs]))
      have h2 := hi t (by simp)
      have h3 := hc.2.1 t (by simp)
      have h4 := hc.2.2.1
      have e2 : (decide (u.1 ≤ P - 1) && decide (P - 1 < u.2)) = false := by simp; omega
      rw [show inL (u :: t :: r) (P - 1) = ((decide (u.1 ≤ P - 1) && decide (P - 1 < u.2)) || inL (t :: r) (P - 1)) from rfl, e2, Bool.false_or, ih', e]
      simp

theorem chg2_mem {p : Per} (h : GoodP p) (c : Int) : c ∈ chg2 p.2 p.1 ↔ 0 ≤ c ∧ c < p.1 ∧ hasP p (c - 1) ≠ hasP p c := by
  have hP := h.pos
  have hm : c ∈ chg2 p.2 p.1 ↔ (wrap0 p.2 p.1 = true ∧ c = 0) ∨ c ∈ chgD p.2 (lastTo p.2) p.1 := by
    unfold chg2
    rw [List.mem_append]
    by_cases hw : wrap0 p.2 p.1 = true <;> simp [hw]
  rw [hm, chgD_mem]
  have hlow : ∀ s ∈ p.2, 0 ≤ s.1 := fun s hs => (h.ins s hs).1
  have hhigh : ∀ s ∈ p.2, s.2 ≤ p.1 := fun s hs => (h.ins s hs).2
  have hpos := canon_pos h.canon
  by_cases hc0 : 0 < c ∧ c < p.1
  · have e1 : hasP p (c - 1) = inL p.2 (c - 1) := hasP_in p hP (by omega) (by omega)
    have e2 : hasP p c = inL p.2 c := hasP_in p hP (by omega) hc0.2
    rw [e1, e2]
    have he := edge_iff c h.canon
    constructor
    · rintro (⟨_, rfl⟩ | ⟨s, hs, h1⟩)
      · omega
      · refine ⟨by omega, hc0.2, he.2 ⟨s, hs, ?_⟩⟩
        rcases h1 with h1 | h1
        · exact Or.inl h1.1
        · exact Or.inr h1.1
    · rintro ⟨_, _, hne⟩
      obtain ⟨s, hs, h1⟩ := he.1 hne
      refine Or.inr ⟨s, hs, ?_⟩
      rcases h1 with h1 | h1
      · exact Or.inl ⟨h1, by omega⟩
      · exact Or.inr ⟨h1, by omega⟩
  · by_cases hz : c = 0
    · subst hz
      have e1 : hasP p (0 - 1) = inL p.2 (p.1 - 1) := by
        have := hasP_period p hP (0 - 1) 1
        rw [← this, show (0 - 1 : Int) + 1 * p.1 = p.1 - 1 by omega]
        exact hasP_in p hP (by omega) (by omega)
      have e2 : hasP p 0 = inL p.2 0 := hasP_in p hP (by omega) (by omega)
      rw [e1, e2, inL_first h.canon hlow, inL_last h.canon hhigh]
      by_cases hl : 0 < p.2.length
      · have hf := mem_first hl
        have hla := mem_last hl
        have hf0 : 0 ≤ firstFr p.2 := hlow _ hf
        have hlP : lastTo p.2 ≤ p.1 := hhigh _ hla
        have hff : ∀ s ∈ p.2, firstFr p.2 ≤ s.1 := fun s hs => canon_first h.canon hs
        unfold wrap0
        simp only [hl, decide_true, Bool.true_and]
        constructor
        · rintro (⟨h1, _⟩ | ⟨s, hs, h1⟩)
          · simp only [Bool.and_eq_true, decide_eq_true_eq] at h1
            refine ⟨by omega, by omega, ?_⟩
            have e3 : decide (lastTo p.2 = p.1) = true := by simp [h1.1]
            have e4 : decide (firstFr p.2 = 0) = false := by simp; omega
            rw [e3, e4]; simp
          · have h2 := hff s hs
            have h3 := hlow s hs
            have h4 := hpos s hs
            refine ⟨by omega, by omega, ?_⟩
            have e3 : decide (lastTo p.2 = p.1) = false := by simp; omega
            have e4 : decide (firstFr p.2 = 0) = true := by simp; omega
            rw [e3, e4]; simp
        · rintro ⟨_, _, hne⟩
          by_cases ha : lastTo p.2 = p.1
          · by_cases hb : firstFr p.2 = 0
            · simp [ha, hb] at hne
            · exact Or.inl ⟨by simp [ha]; omega, trivial⟩
          · by_cases hb : firstFr p.2 = 0
            · exact Or.inr ⟨_, hf, Or.inl ⟨by unfold firstFr at hb; omega, by omega⟩⟩
            · simp [ha, hb] at hne
      · obtain e : p.2 = [] := List.eq_nil_of_length_eq_zero (by omega)
        simp [e, wrap0, firstFr, lastTo]
    · constructor
      · rintro (⟨_, h1⟩ | ⟨s, hs, h1⟩)
        · omega
        · have h2 := hlow s hs
          have h3 := hhigh s hs
          have h4 := hpos s hs
          omega
      · rintro ⟨h1, h2, _⟩; omega

theorem chg2_sorted {p : Per} (h : GoodP p) : (chg2 p.2 p.1).Pairwise (· < ·) := by
  unfold chg2
  rw [List.pairwise_append]
  refine ⟨by split <;> simp, chgD_sorted _ _ h.canon, ?_⟩
  intro a ha b hb
  split at ha
  · rename_i hw
    simp at ha
    subst ha
    unfold wrap0 at hw
    simp only [Bool.and_eq_true, decide_eq_true_eq] at hw
    rw [chgD_mem] at hb
    obtain ⟨s, hs, h1⟩ := hb
    have := canon_first h.canon hs
    have := canon_pos h.canon s hs
    omega
  · cases ha

/-- cycle.constant -/
def constB (P : Int) (l : List Sp) : Bool := l.length == 0 || (decide (firstFr l = 0) && ((l.getD 0 (0, 0)).2 == P))
theorem const_no {p : Per} (h : GoodP p) (hc : constB p.1 p.2 = false) : chg2 p.2 p.1 ≠ [] := by
  unfold constB at hc
  intro he
  have hl : 0 < p.2.length := by
    apply Decidable.byContradiction; intro h0
    have : p.2.length = 0 := by omega
    simp [this] at hc
  have hne : (p.2.length == 0) = false := by simp; intro e; simp [e] at hl
  rw [hne, Bool.false_or] at hc
  have hf := mem_first hl
  have hin := h.ins _ hf
  have hpos := canon_pos h.canon _ hf
  by_cases h0 : 0 < firstFr p.2
  · have : firstFr p.2 ∈ chg2 p.2 p.1 := by
      unfold chg2; rw [List.mem_append]; right
      rw [chgD_mem]; exact ⟨_, hf, Or.inl ⟨rfl, Or.inl h0⟩⟩
    rw [he] at this; cases this
  · have e0 : firstFr p.2 = 0 := by unfold firstFr at h0 ⊢; omega
    rw [e0] at hc
    have h2 : (p.2.getD 0 (0, 0)).2 < p.1 := by
      have : ¬ (p.2.getD 0 (0, 0)).2 = p.1 := by intro e; rw [e] at hc; simp at hc
      omega
    have : (p.2.getD 0 (0, 0)).2 ∈ chg2 p.2 p.1 := by
      unfold chg2; rw [List.mem_append]; right
      rw [chgD_mem]; exact ⟨_, hf, Or.inr ⟨rfl, h2⟩⟩
    rw [he] at this; cases this
theorem const_yes {p : Per} (h : GoodP p) (hc : constB p.1 p.2 = true) : ∀ x, hasP p (x - 1) = hasP p x := by
  intro x
  unfold constB at hc
  rw [Bool.or_eq_true] at hc
  rcases hc with hc | hc
  · have : p.2 = [] := List.eq_nil_of_length_eq_zero (by simpa using hc)
    unfold hasP; rw [this]; rfl
  · simp only [Bool.and_eq_true, decide_eq_true_eq, beq_iff_eq] at hc
    cases hp : p.2 with
    | nil => unfold hasP; rw [hp]; rfl
    | cons s r =>
      rw [hp] at hc
      simp [firstFr] at hc
      have hall : ∀ y, hasP p y = true := by
        intro y
        have := mod_lo y h.pos
        unfold hasP
        rw [hp]
        simp only [inL]
        have : (decide (s.1 ≤ y - y / p.1 * p.1) && decide (y - y / p.1 * p.1 < s.2)) = true := by simp; omega
        rw [this]; rfl
      rw [hall, hall]
theorem isChg_iff {p : Per} (h : GoodP p) (y k : Int) (h0 : 0 ≤ y - k * p.1) (h1 : y - k * p.1 < p.1) : hasP p (y - 1) ≠ hasP p y ↔ (y - k * p.1) ∈ chg2 p.2 p.1 := by
  rw [chg2_mem h]
  have hP := h.pos
  have e1 : hasP p y = hasP p (y - k * p.1) := by
    have := hasP_period p hP (y - k * p.1) k
    rwa [show y - k * p.1 + k * p.1 = y by omega] at this
  have e2 : hasP p (y - 1) = hasP p (y - k * p.1 - 1) := by
    have := hasP_period p hP (y - k * p.1 - 1) k
    rwa [show y - k * p.1 - 1 + k * p.1 = y - 1 by omega] at this
  rw [e1, e2]
  exact ⟨fun h => ⟨h0, h1, h⟩, fun h => h.2.2⟩

theorem mem_getD {L : List Int} {x : Int} (hx : x ∈ L) : ∃ j, j < L.length ∧ L.getD j 0 = x := by
  obtain ⟨j, hj, e⟩ := List.getElem_of_mem hx
  exact ⟨j, hj, by rw [List.getD_eq_getElem?_getD, List.getElem?_eq_getElem hj]; exact e⟩
theorem getD_mem {L : List Int} {j : Nat} (hj : j < L.length) : L.getD j 0 ∈ L := by
  rw [List.getD_eq_getElem?_getD, List.getElem?_eq_getElem hj]; exact List.getElem_mem hj
theorem sorted_getD {L : List Int} (hs : L.Pairwise (· < ·)) {i j : Nat} (hij : i < j) (hj : j < L.length) : L.getD i 0 < L.getD j 0 := by
  have := List.pairwise_iff_getElem.1 hs i j (by omega) hj hij
  simpa [List.getD_eq_getElem?_getD, List.getElem?_eq_getElem hj, List.getElem?_eq_getElem (by omega : i < L.length)] using this

theorem next_in {p : Per} (h : GoodP p) {x : Int} {k : Nat} (hk : k < (chg2 p.2 p.1).length) (h1 : x < x / p.1 * p.1 + (chg2 p.2 p.1).getD k 0)
    (h2 : ∀ j, j < k → x / p.1 * p.1 + (chg2 p.2 p.1).getD j 0 ≤ x) : NextC (hasP p) x (some (x / p.1 * p.1 + (chg2 p.2 p.1).getD k 0)) := by
  have hb := mod_lo x h.pos
  have hm := (chg2_mem h _).1 (getD_mem hk)
  refine ⟨h1, ?_, ?_⟩
  · rw [isChg_iff h _ (x / p.1) (by omega) (by omega)]
    rw [show x / p.1 * p.1 + (chg2 p.2 p.1).getD k 0 - x / p.1 * p.1 = (chg2 p.2 p.1).getD k 0 by omega]
    exact getD_mem hk
  · intro z hz1 hz2
    apply Decidable.byContradiction
    intro hne
    have := (isChg_iff h z (x / p.1) (by omega) (by omega)).1 hne
    obtain ⟨j, hj, e⟩ := mem_getD this
    have hjk : j < k := by
      apply Decidable.byContradiction
      intro hge
      rcases Nat.lt_or_eq_of_le (by omega : k ≤ j) with hlt | heq
      · have := sorted_getD (chg2_sorted h) hlt hj
        omega
      · subst heq; omega
    have := h2 j hjk
    omega
theorem next_out {p : Per} (h : GoodP p) {x : Int} (h0 : chg2 p.2 p.1 ≠ []) (h2 : ∀ j, j < (chg2 p.2 p.1).length → x / p.1 * p.1 + (chg2 p.2 p.1).getD j 0 ≤ x) :
    NextC (hasP p) x (some (x / p.1 * p.1 + p.1 + (chg2 p.2 p.1).getD 0 0)) := by
  have hb := mod_lo x h.pos
  have hl : 0 < (chg2 p.2 p.1).length := List.length_pos_iff.2 h0
  have hm := (chg2_mem h _).1 (getD_mem hl)
  have hk : (x / p.1 + 1) * p.1 = x / p.1 * p.1 + p.1 := by rw [Int.add_mul]; omega
  refine ⟨by omega, ?_, ?_⟩
  · rw [isChg_iff h _ (x / p.1 + 1) (by omega) (by omega)]
    rw [hk, show x / p.1 * p.1 + p.1 + (chg2 p.2 p.1).getD 0 0 - (x / p.1 * p.1 + p.1) = (chg2 p.2 p.1).getD 0 0 by omega]
    exact getD_mem hl
  · intro z hz1 hz2
    apply Decidable.byContradiction
    intro hne
    by_cases hz : z < x / p.1 * p.1 + p.1
    · have := (isChg_iff h z (x / p.1) (by omega) (by omega)).1 hne
      obtain ⟨j, hj, e⟩ := mem_getD this
      have := h2 j hj
      omega
    · have := (isChg_iff h z (x / p.1 + 1) (by omega) (by omega)).1 hne
      obtain ⟨j, hj, e⟩ := mem_getD this
      rcases Nat.eq_zero_or_pos j with hj0 | hj0
      · subst hj0; omega
      · have := sorted_getD (chg2_sorted h) hj0 hj
        omega
theorem prev_in {p : Per} (h : GoodP p) {x : Int} {k : Nat} (hk : k < (chg2 p.2 p.1).length) (h1 : x / p.1 * p.1 + (chg2 p.2 p.1).getD k 0 ≤ x)
    (h2 : ∀ j, k < j → j < (chg2 p.2 p.1).length → x < x / p.1 * p.1 + (chg2 p.2 p.1).getD j 0) : PrevC (hasP p) x (some (x / p.1 * p.1 + (chg2 p.2 p.1).getD k 0)) := by
  have hb := mod_lo x h.pos
  have hm := (chg2_mem h _).1 (getD_mem hk)
  refine ⟨h1, ?_, ?_⟩
  · rw [isChg_iff h _ (x / p.1) (by omega) (by omega)]
    rw [show x / p.1 * p.1 + (chg2 p.2 p.1).getD k 0 - x / p.1 * p.1 = (chg2 p.2 p.1).getD k 0 by omega]
    exact getD_mem hk
  · intro z hz1 hz2
    apply Decidable.byContradiction
    intro hne
    have := (isChg_iff h z (x / p.1) (by omega) (by omega)).1 hne
    obtain ⟨j, hj, e⟩ := mem_getD this
    have hjk : k < j := by
      apply Decidable.byContradiction
      intro hge
      rcases Nat.lt_or_eq_of_le (by omega : j ≤ k) with hlt | heq
      · have := sorted_getD (chg2_sorted h) hlt hk
        omega
      · subst heq; omega
    have := h2 j hjk hj
    omega
theorem prev_out {p : Per} (h : GoodP p) {x : Int} (h0 : chg2 p.2 p.1 ≠ []) (h2 : ∀ j, j < (chg2 p.2 p.1).length → x < x / p.1 * p.1 + (chg2 p.2 p.1).getD j 0) :
    PrevC (hasP p) x (some (x / p.1 * p.1 - p.1 + (chg2 p.2 p.1).getD ((chg2 p.2 p.1).length - 1) 0)) := by
  have hb := mod_lo x h.pos
  have hl : 0 < (chg2 p.2 p.1).length := List.length_pos_iff.2 h0
  have hl' : (chg2 p.2 p.1).length - 1 < (chg2 p.2 p.1).length := by omega
  have hm := (chg2_mem h _).1 (getD_mem hl')
  have hk : (x / p.1 - 1) * p.1 = x / p.1 * p.1 - p.1 := by rw [Int.sub_mul]; omega
  refine ⟨by omega, ?_, ?_⟩
  · rw [isChg_iff h _ (x / p.1 - 1) (by omega) (by omega)]
    rw [hk, show x / p.1 * p.1 - p.1 + (chg2 p.2 p.1).getD ((chg2 p.2 p.1).length - 1) 0 - (x / p.1 * p.1 - p.1) = (chg2 p.2 p.1).getD ((chg2 p.2 p.1).length - 1) 0 by omega]
    exact getD_mem hl'
  · intro z hz1 hz2
    apply Decidable.byContradiction
    intro hne
    by_cases hz : x / p.1 * p.1 ≤ z
    · have := (isChg_iff h z (x / p.1) (by omega) (by omega)).1 hne
      obtain ⟨j, hj, e⟩ := mem_getD this
      have := h2 j hj
      omega
    · have := (isChg_iff h z (x / p.1 - 1) (by omega) (by omega)).1 hne
      obtain ⟨j, hj, e⟩ := mem_getD this
      rcases Nat.lt_or_eq_of_le (by omega : j ≤ (chg2 p.2 p.1).length - 1) with hlt | heq
      · have := sorted_getD (chg2_sorted h) hlt hl'
        omega
      · subst heq; omega

theorem chgD_len (l : List Sp) (t P : Int) : (chgD l t P).length ≤ 2 * l.length := by
  induction l with
  | nil => simp [chgD]
  | cons s r ih =>
    have e : chgD (s :: r) t P = stepD t P s ++ chgD r t P := rfl
    have h1 : (stepD t P s).length ≤ 2 := by
      unfold stepD
      rw [List.length_append]
      have a1 : (if 0 < s.1 ∨ t < P then [s.1] else []).length ≤ 1 := by split <;> simp
      have a2 : (if s.2 < P then [s.2] else []).length ≤ 1 := by split <;> simp
      omega
    rw [e, List.length_append, List.length_cons]; omega
theorem chg2_len (l : List Sp) (P : Int) : (chg2 l P).length ≤ 2 * l.length + 1 := by
  have := chgD_len l (lastTo l) P
  unfold chg2
  rw [List.length_append]
  have a1 : (if wrap0 l P then [(0 : Int)] else []).length ≤ 1 := by split <;> simp
  omega
/-! the list of the changes as it grows -/
def cT (l : List Sp) (P : Int) (k : Nat) : List Int := (if k = l.length ∧ wrap0 l P = true then [0] else []) ++ chgD (l.take k) (lastTo l) P
theorem cT_zero (l : List Sp) (P : Int) : cT l P 0 = [] := by
  unfold cT
  by_cases h : 0 = l.length
  · have : l = [] := List.eq_nil_of_length_eq_zero h.symm
    subst this
    simp [wrap0, firstFr, chgD]
  · simp [h, chgD]
theorem cT_full (l : List Sp) (P : Int) : cT l P l.length = chg2 l P := by
  unfold cT chg2
  simp
theorem cT_mid {l : List Sp} {P : Int} {k : Nat} (h : k < l.length) : cT l P k = chgD (l.take k) (lastTo l) P := by
  unfold cT
  rw [if_neg (by omega)]; rfl
theorem chgD_succ {l : List Sp} {k : Nat} {x y : Int} (t P : Int) (h : l.getD k (0, 0) = (x, y)) (hk : k < l.length) : chgD (l.take (k + 1)) t P = chgD (l.take k) t P ++ stepD t P (x, y) := by
  unfold chgD
  rw [getD_take_succ h hk, List.flatMap_append]; simp
/-- a run that ends before the period -/
theorem cT_lt {l : List Sp} {P : Int} {k : Nat} {x y : Int} (h : l.getD k (0, 0) = (x, y)) (hk : k < l.length) (hy : y < P) : cT l P (k + 1) = cT l P k ++ stepD (lastTo l) P (x, y) := by
  rw [cT_mid hk]
  have e : ¬ (k + 1 = l.length ∧ wrap0 l P = true) := by
    rintro ⟨e1, e2⟩
    unfold wrap0 at e2
    simp only [Bool.and_eq_true, decide_eq_true_eq] at e2
    have : lastTo l = y := by unfold lastTo; rw [show l.length - 1 = k by omega, h]
    omega
  unfold cT
  rw [if_neg e, chgD_succ _ _ h hk]; rfl
theorem last_of_ge {l : List Sp} {P : Int} {k : Nat} {x y : Int} (hc : Canon l) (hi : inside P l) (h : l.getD k (0, 0) = (x, y)) (hk : k < l.length) (hy : ¬ y < P) : k + 1 = l.length ∧ y = P ∧ lastTo l = P := by
  have hm := hi _ (mem_of_getD h hk)
  simp only at hm
  have hke : k + 1 = l.length := by
    apply Decidable.byContradiction
    intro hne
    have h1 := (canon_lt hc (i := k) (j := k + 1) (by omega) (by omega)).2
    rw [h] at h1
    simp only at h1
    have h2 := hi (l.getD (k + 1) (0, 0)) (by rw [List.getD_eq_getElem?_getD, List.getElem?_eq_getElem (by omega : k + 1 < l.length)]; exact List.getElem_mem _)
    omega
  refine ⟨hke, by omega, ?_⟩
  unfold lastTo
  rw [show l.length - 1 = k by omega, h]
  simp only; omega
theorem cT_wrap {l : List Sp} {P : Int} {k : Nat} {x y : Int} (hc : Canon l) (hi : inside P l) (h : l.getD k (0, 0) = (x, y)) (hk : k < l.length) (hy : ¬ y < P) (hf : 0 < firstFr l) : cT l P (k + 1) = 0 :: (cT l P k ++ stepD (lastTo l) P (x, y)) := by
  obtain ⟨h1, h2, h3⟩ := last_of_ge hc hi h hk hy
  rw [cT_mid hk]
  unfold cT
  rw [if_pos ⟨h1, by unfold wrap0; simp [h3, hf]⟩, chgD_succ _ _ h hk]; rfl
theorem cT_nowrap {l : List Sp} {P : Int} {k : Nat} {x y : Int} (h : l.getD k (0, 0) = (x, y)) (hk : k < l.length) (hf : ¬ 0 < firstFr l) : cT l P (k + 1) = cT l P k ++ stepD (lastTo l) P (x, y) := by
  rw [cT_mid hk]
  unfold cT
  rw [if_neg (by unfold wrap0; simp [hf]), chgD_succ _ _ h hk]; rfl
theorem cT_len (l : List Sp) (P : Int) (k : Nat) : (cT l P k).length ≤ 2 * k + 1 := by
  have := chgD_len (l.take k) (lastTo l) P
  have := List.length_take_le k l
  unfold cT
  rw [List.length_append]
  have a1 : (if k = l.length ∧ wrap0 l P = true then [(0 : Int)] else []).length ≤ 1 := by split <;> simp
  omega
end Wk
end Go.Proofs.YtkfonfheakpcbaaGreat
