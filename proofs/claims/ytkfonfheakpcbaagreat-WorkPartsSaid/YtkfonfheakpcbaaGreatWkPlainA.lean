/- Plain mathematics of runs, periodic sets and working time. No conditions. -/
namespace Go.Proofs.YtkfonfheakpcbaaGreat
namespace Wk

abbrev Sp := Int × Int

def lineB (x : Int) : Bool := decide (-4398046511104 ≤ x) && decide (x ≤ 4398046511104)
def ivB (s : Sp) : Bool := (lineB s.1 && lineB s.2) && decide (s.1 < s.2)
def okAt (l : List Sp) (i : Nat) : Bool :=
  ivB (l.getD i (0, 0)) && (i == 0 || decide ((l.getD (i - 1) (0, 0)).2 < (l.getD i (0, 0)).1))
/-- runs.Valid -/
def rvB (l : List Sp) : Bool := decide (l.length ≤ 2000) && (List.range l.length).all (okAt l)

theorem lineB_iff (x : Int) : lineB x = true ↔ -4398046511104 ≤ x ∧ x ≤ 4398046511104 := by
  simp [lineB]
theorem ivB_iff (s : Sp) : ivB s = true ↔ -4398046511104 ≤ s.1 ∧ s.1 < s.2 ∧ s.2 ≤ 4398046511104 := by
  simp [ivB, lineB]; omega

/-- canonical lists -/
def Canon : List Sp → Prop
  | [] => True
  | s :: r => s.1 < s.2 ∧ (∀ t ∈ r, s.2 < t.1) ∧ Canon r

theorem rvB_iff (l : List Sp) : rvB l = true ↔ l.length ≤ 2000 ∧ ∀ i, i < l.length → okAt l i = true := by
  simp [rvB]

theorem rvB_false_of {l : List Sp} {i : Nat} (h : i < l.length) (hk : okAt l i = false) : rvB l = false := by
  cases hr : rvB l with
  | false => rfl
  | true => rw [rvB_iff] at hr; rw [hr.2 i h] at hk; cases hk

theorem okAt_mk {l : List Sp} {k : Nat} {x y : Int} (h : l.getD k (0, 0) = (x, y)) (hi : ivB (x, y) = true) (hz : k = 0 ∨ (l.getD (k - 1) (0, 0)).2 < x) : okAt l k = true := by
  unfold okAt
  rw [h, hi]
  rcases hz with rfl | hz
  · simp
  · simp only [decide_eq_true hz, Bool.or_true, Bool.and_true]
theorem okAt_bad {l : List Sp} {k : Nat} {x y : Int} (h : l.getD k (0, 0) = (x, y)) (hz : ivB (x, y) = false ∨ (0 < k ∧ x ≤ (l.getD (k - 1) (0, 0)).2)) : okAt l k = false := by
  unfold okAt
  rw [h]
  rcases hz with hz | ⟨h0, hz⟩
  · simp [hz]
  · have e1 : (k == 0) = false := by simp; omega
    have e2 : decide ((l.getD (k - 1) (0, 0)).2 < x) = false := by simp only [decide_eq_false_iff_not]; omega
    simp only [e1, e2, Bool.or_false, Bool.and_false]

def Bnd (l : List Sp) : Prop := ∀ s ∈ l, -4398046511104 ≤ s.1 ∧ s.1 < s.2 ∧ s.2 ≤ 4398046511104

theorem canon_of_ok : ∀ (l : List Sp), (∀ i, i < l.length → okAt l i = true) → Canon l ∧ Bnd l
  | [], _ => ⟨trivial, fun _ h => by cases h⟩
  | [s], h => by
    have h0 := h 0 (by simp)
    simp only [okAt, List.getD_cons_zero, Bool.and_eq_true] at h0
    have := (ivB_iff s).1 h0.1
    refine ⟨⟨this.2.1, (fun _ h => by cases h), trivial⟩, ?_⟩
    intro t ht; simp at ht; subst ht; exact this
  | s :: t :: r, h => by
    have h0 := h 0 (by simp)
    have h1 := h 1 (by simp)
    simp only [okAt, List.getD_cons_zero, Bool.and_eq_true] at h0
    have hs := (ivB_iff s).1 h0.1
    have ih := canon_of_ok (t :: r) (fun i hi => by
      have := h (i + 1) (by simpa using hi)
      cases i with
      | zero =>
        simp only [okAt, List.getD_cons_succ, List.getD_cons_zero, Bool.and_eq_true] at this ⊢
        exact ⟨this.1, by simp⟩
      | succ j =>
        simp only [okAt, List.getD_cons_succ, Bool.and_eq_true, Nat.add_sub_cancel] at this ⊢
        refine ⟨this.1, ?_⟩
        have h2 := this.2
        simp at h2
        simp [h2])
    simp only [okAt, List.getD_cons_succ, List.getD_cons_zero, Bool.and_eq_true] at h1
    have hst : s.2 < t.1 := by simpa using h1.2
    refine ⟨⟨hs.2.1, ?_, ih.1⟩, ?_⟩
    · intro u hu
      simp at hu
      rcases hu with rfl | hu
      · exact hst
      · have h3 := ih.1.2.1 u hu
        have h4 := ih.1.1
        omega
    · intro u hu
      simp at hu
      rcases hu with rfl | hu | hu
      · exact hs
      · subst hu; exact ih.2 _ (by simp)
      · exact ih.2 u (by simp [hu])

theorem canon_of_rvB {l : List Sp} (h : rvB l = true) : Canon l ∧ Bnd l ∧ l.length ≤ 2000 := by
  rw [rvB_iff] at h
  have := canon_of_ok l h.2
  exact ⟨this.1, this.2, h.1⟩

/-- how many numbers -/
def meas : List Sp → Int
  | [] => 0
  | s :: r => (s.2 - s.1) + meas r
/-- how many below x -/
def rank : List Sp → Int → Int
  | [], _ => 0
  | s :: r, x => (if s.1 < x then min s.2 x - s.1 else 0) + rank r x
def inL : List Sp → Int → Bool
  | [], _ => false
  | s :: r, x => (decide (s.1 ≤ x) && decide (x < s.2)) || inL r x
/-- the member of rank n (0 if none) -/
def nth : List Sp → Int → Int
  | [], _ => 0
  | s :: r, n => if n < s.2 - s.1 then s.1 + n else nth r (n - (s.2 - s.1))

theorem canon_pos : ∀ {l : List Sp}, Canon l → ∀ s ∈ l, s.1 < s.2
  | [], _, _, h => by cases h
  | s :: r, hc, t, ht => by
    simp at ht
    rcases ht with rfl | ht
    · exact hc.1
    · exact canon_pos hc.2.2 t ht

def b2i (b : Bool) : Int := if b = true then 1 else 0
theorem b2i_true : b2i true = 1 := rfl
theorem b2i_false : b2i false = 0 := rfl
theorem b2i_bd (b : Bool) : 0 ≤ b2i b ∧ b2i b ≤ 1 := by cases b <;> simp [b2i]

theorem meas_nonneg : ∀ {l : List Sp}, Canon l → 0 ≤ meas l
  | [], _ => by simp [meas]
  | s :: r, h => by have := meas_nonneg h.2.2; have := h.1; simp only [meas]; omega

theorem getD_take_succ {l : List Sp} {k : Nat} {x y : Int} (h : l.getD k (0, 0) = (x, y)) (hk : k < l.length) : l.take (k + 1) = l.take k ++ [(x, y)] := by
  rw [List.take_succ_eq_append_getElem hk]
  rw [List.getD_eq_getElem?_getD, List.getElem?_eq_getElem hk] at h
  simp at h
  rw [h]
theorem getD_drop {l : List Sp} {k : Nat} {x y : Int} (h : l.getD k (0, 0) = (x, y)) (hk : k < l.length) : l.drop k = (x, y) :: l.drop (k + 1) := by
  rw [List.drop_eq_getElem_cons hk]
  rw [List.getD_eq_getElem?_getD, List.getElem?_eq_getElem hk] at h
  simp at h
  rw [h]
theorem meas_append (a b : List Sp) : meas (a ++ b) = meas a + meas b := by
  induction a with
  | nil => simp [meas]
  | cons s r ih => simp only [List.cons_append, meas, ih]; omega
theorem rank_append (a b : List Sp) (x : Int) : rank (a ++ b) x = rank a x + rank b x := by
  induction a with
  | nil => simp [rank]
  | cons s r ih => simp only [List.cons_append, rank, ih]; omega
theorem meas_take_succ {l : List Sp} {k : Nat} {x y : Int} (h : l.getD k (0, 0) = (x, y)) (hk : k < l.length) : meas (l.take (k + 1)) = meas (l.take k) + (y - x) := by
  rw [getD_take_succ h hk, meas_append]; simp [meas]
theorem rank_take_succ {l : List Sp} {k : Nat} {x y : Int} (z : Int) (h : l.getD k (0, 0) = (x, y)) (hk : k < l.length) :
    rank (l.take (k + 1)) z = rank (l.take k) z + (if x < z then min y z - x else 0) := by
  rw [getD_take_succ h hk, rank_append]; simp [rank]
theorem mem_of_getD {l : List Sp} {k : Nat} {x y : Int} (h : l.getD k (0, 0) = (x, y)) (hk : k < l.length) : (x, y) ∈ l := by
  rw [List.getD_eq_getElem?_getD, List.getElem?_eq_getElem hk] at h
  simp at h
  rw [← h]; exact List.getElem_mem hk
theorem meas_bd : ∀ {l : List Sp}, Bnd l → 0 ≤ meas l ∧ meas l ≤ l.length * 8796093022208
  | [], _ => by simp [meas]
  | s :: r, h => by
    have ih := meas_bd (l := r) (fun t ht => h t (by simp [ht]))
    have hs := h s (by simp)
    simp only [meas, List.length_cons]; omega
theorem rank_bd : ∀ {l : List Sp} (x : Int), Bnd l → 0 ≤ rank l x ∧ rank l x ≤ l.length * 8796093022208
  | [], _, _ => by simp [rank]
  | s :: r, x, h => by
    have ih := rank_bd (l := r) x (fun t ht => h t (by simp [ht]))
    have hs := h s (by simp)
    simp only [rank, List.length_cons]; split <;> omega
theorem Bnd.take {l : List Sp} (h : Bnd l) (k : Nat) : Bnd (l.take k) := fun s hs => h s (List.mem_of_mem_take hs)

theorem nth_drop {l : List Sp} {k : Nat} {x y m : Int} (h : l.getD k (0, 0) = (x, y)) (hk : k < l.length) :
    nth (l.drop k) m = (if m < y - x then x + m else nth (l.drop (k + 1)) (m - (y - x))) ∧ meas (l.drop k) = (y - x) + meas (l.drop (k + 1)) := by
  rw [getD_drop h hk]; exact ⟨rfl, rfl⟩

theorem rank_low : ∀ {l : List Sp} {x : Int}, (∀ s ∈ l, x ≤ s.1) → rank l x = 0
  | [], _, _ => rfl
  | s :: r, x, h => by
    have h1 := h s (by simp)
    have h2 := rank_low (l := r) (x := x) (fun t ht => h t (by simp [ht]))
    simp only [rank, h2]; split <;> omega
theorem inL_low : ∀ {l : List Sp} {x : Int}, (∀ s ∈ l, x < s.1) → inL l x = false
  | [], _, _ => rfl
  | s :: r, x, h => by
    have h1 := h s (by simp)
    have h2 := inL_low (l := r) (x := x) (fun t ht => h t (by simp [ht]))
    simp only [inL, h2, Bool.or_false]; simp; intro; omega
theorem rank_high : ∀ {l : List Sp} {x : Int}, Canon l → (∀ s ∈ l, s.2 ≤ x) → rank l x = meas l
  | [], _, _, _ => rfl
  | s :: r, x, hc, h => by
    have h1 := h s (by simp)
    have h0 := hc.1
    have h2 := rank_high (l := r) (x := x) hc.2.2 (fun t ht => h t (by simp [ht]))
    simp only [rank, meas, h2]; split <;> omega
theorem inL_high : ∀ {l : List Sp} {x : Int}, (∀ s ∈ l, s.2 ≤ x) → inL l x = false
  | [], _, _ => rfl
  | s :: r, x, h => by
    have h1 := h s (by simp)
    have h2 := inL_high (l := r) (x := x) (fun t ht => h t (by simp [ht]))
    simp only [inL, h2, Bool.or_false]; simp; intro; omega

theorem rank_succ : ∀ {l : List Sp} (x : Int), Canon l → rank l (x + 1) = rank l x + b2i (inL l x)
  | [], _, _ => rfl
  | s :: r, x, hc => by
    have ih := rank_succ (l := r) x hc.2.2
    have h0 := hc.1
    by_cases hx : s.1 ≤ x ∧ x < s.2
    · have h1 : inL r x = false := inL_low (fun t ht => by have := hc.2.1 t ht; omega)
      have h2 : (decide (s.1 ≤ x) && decide (x < s.2)) = true := by simp [hx.1, hx.2]
      simp only [rank, inL, ih, h1, h2, Bool.true_or, b2i_true, b2i_false]
      split <;> split <;> omega
    · have h1 : (decide (s.1 ≤ x) && decide (x < s.2)) = false := by
        simp; omega
      simp only [rank, inL, ih, h1, Bool.false_or]
      split <;> split <;> omega

theorem rank_bounds : ∀ {l : List Sp} (x : Int), Canon l → 0 ≤ rank l x ∧ rank l x ≤ meas l
  | [], _, _ => by simp [rank, meas]
  | s :: r, x, hc => by
    have ih := rank_bounds (l := r) x hc.2.2
    have h0 := hc.1
    simp only [rank, meas]
    split <;> omega

theorem nth_spec : ∀ {l : List Sp} (n : Int), Canon l → 0 ≤ n → n < meas l → rank l (nth l n) = n ∧ inL l (nth l n) = true
  | [], n, _, h0, h1 => by simp [meas] at h1; omega
  | s :: r, n, hc, h0, h1 => by
    have hs := hc.1
    simp only [meas] at h1
    by_cases hn : n < s.2 - s.1
    · have hr : rank r (s.1 + n) = 0 := rank_low (fun t ht => by have := hc.2.1 t ht; omega)
      simp only [nth, if_pos hn, rank, inL, hr]
      refine ⟨by split <;> omega, ?_⟩
      have : (decide (s.1 ≤ s.1 + n) && decide (s.1 + n < s.2)) = true := by simp; omega
      simp [this]
    · have ih := nth_spec (l := r) (n - (s.2 - s.1)) hc.2.2 (by omega) (by omega)
      simp only [nth, if_neg hn, rank, inL, ih.1, ih.2, Bool.or_true, and_true]
      have hge : s.2 ≤ nth r (n - (s.2 - s.1)) := by
        apply Decidable.byContradiction
        intro hlt
        have : inL r (nth r (n - (s.2 - s.1))) = false := inL_low (fun t ht => by have := hc.2.1 t ht; omega)
        rw [this] at ih; exact absurd ih.2 (by simp)
      split <;> omega

theorem canon_lt : ∀ {l : List Sp} {i j : Nat}, Canon l → i < j → j < l.length → (l.getD i (0, 0)).2 < (l.getD j (0, 0)).1 ∧ (l.getD i (0, 0)).2 < (l.getD j (0, 0)).2
  | [], i, j, _, _, h => by simp at h
  | s :: r, 0, j + 1, hc, _, h => by
    have hj : j < r.length := by simpa using h
    have hm : r.getD j (0, 0) ∈ r := by
      rw [List.getD_eq_getElem?_getD, List.getElem?_eq_getElem hj]; exact List.getElem_mem hj
    have h1 := hc.2.1 _ hm
    have h2 := canon_pos hc.2.2 _ hm
    simp only [List.getD_cons_zero, List.getD_cons_succ]
    omega
  | s :: r, i + 1, j + 1, hc, hij, h => by
    simp only [List.getD_cons_succ]
    exact canon_lt hc.2.2 (by omega) (by simpa using h)
  | _ :: _, _, 0, _, hij, _ => by omega

/-- the place of x: how many runs end at or before x -/
def IsSrch (l : List Sp) (x : Int) (i : Nat) : Prop := i ≤ l.length ∧ (∀ j, j < i → (l.getD j (0, 0)).2 ≤ x) ∧ (i < l.length → x < (l.getD i (0, 0)).2)

theorem inL_srch : ∀ {l : List Sp} {x : Int} {i : Nat}, Canon l → IsSrch l x i → inL l x = (decide (i < l.length) && decide ((l.getD i (0, 0)).1 ≤ x))
  | [], x, i, _, h => by simp [inL]
  | s :: r, x, 0, hc, h => by
    have h1 : x < s.2 := h.2.2 (by simp)
    have h2 : inL r x = false := inL_low (fun t ht => by have := hc.2.1 t ht; omega)
    simp [inL, h1, h2]
  | s :: r, x, i + 1, hc, h => by
    have h1 : s.2 ≤ x := h.2.1 0 (by omega)
    have ih := inL_srch (l := r) (x := x) (i := i) hc.2.2 ⟨by have := h.1; simp at this; omega, fun j hj => by have := h.2.1 (j + 1) (by omega); simpa using this, fun hi => by have := h.2.2 (by simpa using hi); simpa using this⟩
    have h2 : (decide (s.1 ≤ x) && decide (x < s.2)) = false := by simp; omega
    simp only [inL, h2, Bool.false_or, ih, List.length_cons, List.getD_cons_succ]
    congr 1
    simp

/-! A step function: it goes up by one exactly at members. -/
def Steps1 (G : Int → Int) (m : Int → Bool) : Prop := ∀ x, G (x + 1) = G x + b2i (m x)

theorem Steps1.mono {G : Int → Int} {m : Int → Bool} (h : Steps1 G m) : ∀ (a b : Int), a ≤ b → G a ≤ G b ∧ G b - G a ≤ b - a := by
  intro a b hab
  obtain ⟨n, rfl⟩ : ∃ n : Nat, b = a + n := ⟨(b - a).toNat, by omega⟩
  clear hab
  induction n with
  | zero => simp
  | succ n ih =>
    have h1 := h (a + n)
    have e : a + ((n + 1 : Nat) : Int) = a + n + 1 := by omega
    rw [e]
    have := b2i_bd (m (a + n))
    omega

theorem Steps1.strict {G : Int → Int} {m : Int → Bool} (h : Steps1 G m) {a b : Int} (hab : a < b) (hm : m a = true) : G a < G b := by
  have h1 := h a
  have h2 := (h.mono (a + 1) b (by omega)).1
  rw [hm, b2i_true] at h1
  omega

/-- below a member there are fewer -/
theorem Steps1.lt_of {G : Int → Int} {m : Int → Bool} (h : Steps1 G m) {a b : Int} (hg : G a < G b) : a < b := by
  apply Decidable.byContradiction
  intro hc
  have := (h.mono b a (by omega)).1
  omega

theorem Steps1.le_of {G : Int → Int} {m : Int → Bool} (h : Steps1 G m) {a b : Int} (hm : m b = true) (hg : G a ≤ G b) : a ≤ b := by
  apply Decidable.byContradiction
  intro hc
  have := h.strict (a := b) (b := a) (by omega) hm
  omega

/-- the member of a rank is unique -/
theorem Steps1.uniq {G : Int → Int} {m : Int → Bool} (h : Steps1 G m) {a b : Int} (ha : m a = true) (hb : m b = true) (e : G a = G b) : a = b := by
  have := h.le_of hb (Int.le_of_eq e)
  have := h.le_of ha (Int.le_of_eq e.symm)
  omega

/-- no members between: constant -/
theorem Steps1.const {G : Int → Int} {m : Int → Bool} (h : Steps1 G m) {a b : Int} (e : G a = G b) : ∀ x, a ≤ x → x < b → m x = false := by
  intro x h1 h2
  cases hm : m x with
  | false => rfl
  | true =>
    have h3 := h.strict h2 hm
    have h4 := (h.mono a x h1).1
    omega

theorem rank_steps {l : List Sp} (hc : Canon l) : Steps1 (rank l) (inL l) := fun x => rank_succ x hc

/-! ## periodic sets -/
/-- a periodic set: the period, and the runs of one period -/
abbrev Per := Int × List Sp
def inside (P : Int) (l : List Sp) : Prop := ∀ s ∈ l, 0 ≤ s.1 ∧ s.2 ≤ P
structure GoodP (p : Per) : Prop where
  pos : 1 ≤ p.1
  canon : Canon p.2
  ins : inside p.1 p.2
def rankP (p : Per) (x : Int) : Int := x / p.1 * meas p.2 + rank p.2 (x - x / p.1 * p.1)
def hasP (p : Per) (x : Int) : Bool := inL p.2 (x - x / p.1 * p.1)
def nthP (p : Per) (n : Int) : Int := n / meas p.2 * p.1 + nth p.2 (n - n / meas p.2 * meas p.2)

theorem div_uniq {x k P : Int} (hP : 1 ≤ P) (h0 : 0 ≤ x - k * P) (h1 : x - k * P < P) : x / P = k := by
  have e : x = (x - k * P) + k * P := by omega
  rw [e, Int.add_mul_ediv_right _ _ (by omega), Int.ediv_eq_zero_of_lt h0 h1]; omega
theorem mod_lo (x : Int) {P : Int} (hP : 1 ≤ P) : 0 ≤ x - x / P * P ∧ x - x / P * P < P := by
  have h1 := Int.emod_nonneg x (b := P) (by omega)
  have h2 := Int.emod_lt_of_pos x (b := P) (by omega)
  have h3 := Int.mul_ediv_add_emod x P
  have h4 : P * (x / P) = x / P * P := Int.mul_comm _ _
  omega

theorem rankP_steps {p : Per} (h : GoodP p) : Steps1 (rankP p) (hasP p) := by
  intro x
  have hm := mod_lo x h.pos
  by_cases hx : x - x / p.1 * p.1 + 1 < p.1
  · have e : (x + 1) / p.1 = x / p.1 := div_uniq h.pos (by omega) (by omega)
    have hr := rank_succ (x - x / p.1 * p.1) h.canon
    simp only [rankP, hasP, e]
    rw [show x + 1 - x / p.1 * p.1 = x - x / p.1 * p.1 + 1 from by omega, hr, Int.add_assoc]

  · have hk : (x / p.1 + 1) * p.1 = x / p.1 * p.1 + p.1 := by rw [Int.add_mul]; omega
    have e : (x + 1) / p.1 = x / p.1 + 1 := div_uniq h.pos (by omega) (by omega)
    have hr := rank_succ (x - x / p.1 * p.1) h.canon
    have hh : rank p.2 (x - x / p.1 * p.1 + 1) = meas p.2 := rank_high h.canon (fun s hs => by have := h.ins s hs; omega)
    have hl : rank p.2 (x + 1 - (x / p.1 + 1) * p.1) = 0 := rank_low (fun s hs => by have := h.ins s hs; omega)
    simp only [rankP, hasP, e, hl]
    rw [hh] at hr
    have e2 : (x / p.1 + 1) * meas p.2 = x / p.1 * meas p.2 + meas p.2 := by rw [Int.add_mul]; omega
    omega

theorem nth_in : ∀ {l : List Sp} {P n : Int}, Canon l → inside P l → 0 ≤ n → n < meas l → 0 ≤ nth l n ∧ nth l n < P := by
  intro l P n hc hi h0 h1
  have h := (nth_spec n hc h0 h1).2
  constructor
  · apply Decidable.byContradiction; intro hn
    rw [inL_low (fun s hs => by have := hi s hs; omega)] at h; cases h
  · apply Decidable.byContradiction; intro hn
    rw [inL_high (fun s hs => by have := hi s hs; omega)] at h; cases h

theorem nthP_spec {p : Per} (h : GoodP p) (n : Int) (hm : 0 < meas p.2) : rankP p (nthP p n) = n ∧ hasP p (nthP p n) = true := by
  have hb := mod_lo n (P := meas p.2) (by omega)
  have hn := nth_spec (n - n / meas p.2 * meas p.2) h.canon hb.1 hb.2
  have hi := nth_in h.canon h.ins hb.1 hb.2
  have e : nthP p n / p.1 = n / meas p.2 := by
    refine div_uniq h.pos ?_ ?_ <;> simp only [nthP] <;> omega
  have e2 : nthP p n - n / meas p.2 * p.1 = nth p.2 (n - n / meas p.2 * meas p.2) := by simp only [nthP]; omega
  simp only [rankP, hasP, e, e2]
  exact ⟨by rw [hn.1]; omega, hn.2⟩

/-! ## sets -/
structure St where
  lf : Per
  rt : Per
  fr : Int
  to : Int
  l : List Sp

structure GoodS (s : St) : Prop where
  lf : GoodP s.lf
  rt : GoodP s.rt
  ft : s.fr ≤ s.to
  canon : Canon s.l
  ins : ∀ x ∈ s.l, s.fr ≤ x.1 ∧ x.2 ≤ s.to

def hasS (s : St) (x : Int) : Bool := if x < s.fr then hasP s.lf x else if x < s.to then inL s.l x else hasP s.rt x
def clampI (x a b : Int) : Int := min (max x a) b
def potS (s : St) (x : Int) : Int := rankP s.lf (min x s.fr) + rank s.l (min (max x s.fr) s.to) + rankP s.rt (max x s.to)
/-- work.count -/
def cnt (s : St) (a b : Int) : Int :=
  (if min a s.fr < min b s.fr then rankP s.lf (min b s.fr) - rankP s.lf (min a s.fr) else 0)
  + (if max a s.to < max b s.to then rankP s.rt (max b s.to) - rankP s.rt (max a s.to) else 0)
  + (if min (max a s.fr) s.to < min (max b s.fr) s.to then rank s.l (min (max b s.fr) s.to) - rank s.l (min (max a s.fr) s.to) else 0)

theorem ite_sub (G : Int → Int) (x y : Int) (h : x ≤ y) : (if x < y then G y - G x else 0) = G y - G x := by
  split
  · rfl
  · have : x = y := by omega
    subst this; omega

theorem cnt_pot (s : St) (h : s.fr ≤ s.to) (a b : Int) (hab : a ≤ b) : cnt s a b = potS s b - potS s a := by
  unfold cnt potS
  rw [ite_sub (rankP s.lf) _ _ (by omega), ite_sub (rankP s.rt) _ _ (by omega), ite_sub (rank s.l) _ _ (by omega)]
  omega

theorem potS_steps {s : St} (h : GoodS s) : Steps1 (potS s) (hasS s) := by
  intro x
  have hft := h.ft
  by_cases h1 : x < s.fr
  · have e := rankP_steps h.lf x
    simp only [potS, hasS, if_pos h1]
    rw [show min (x + 1) s.fr = x + 1 by omega, show min x s.fr = x by omega, show max (x + 1) s.fr = s.fr by omega, show max x s.fr = s.fr by omega,
      show max (x + 1) s.to = s.to by omega, show max x s.to = s.to by omega, e]
    omega
  · by_cases h2 : x < s.to
    · have e := rank_succ (l := s.l) x h.canon
      simp only [potS, hasS, if_neg h1, if_pos h2]
      rw [show min (x + 1) s.fr = s.fr by omega, show min x s.fr = s.fr by omega, show min (max (x + 1) s.fr) s.to = x + 1 by omega, show min (max x s.fr) s.to = x by omega,
        show max (x + 1) s.to = s.to by omega, show max x s.to = s.to by omega, e]
      omega
    · have e := rankP_steps h.rt x
      simp only [potS, hasS, if_neg h1, if_neg h2]
      rw [show min (x + 1) s.fr = s.fr by omega, show min x s.fr = s.fr by omega, show min (max (x + 1) s.fr) s.to = s.to by omega, show min (max x s.fr) s.to = s.to by omega,
        show max (x + 1) s.to = x + 1 by omega, show max x s.to = x by omega, e]
      omega

end Wk
end Go.Proofs.YtkfonfheakpcbaaGreat
