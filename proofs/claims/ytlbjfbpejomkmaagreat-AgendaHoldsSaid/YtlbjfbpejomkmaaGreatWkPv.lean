import Derived.Test.YtlbjfbpejomkmaaGreatWkPq
import Derived.Test.YtlbjfbpejomkmaaGreatWkPl
/- The ends of spans in order, and the union as a list between them. -/
namespace Go.Proofs.YtlbjfbpejomkmaaGreat
namespace Wk
def Asc (l : List Int) : Prop := l.Pairwise (· < ·)
def insS : List Int → Int → List Int
  | [], x => [x]
  | y :: r, x => if y < x then y :: insS r x else if y = x then y :: r else x :: y :: r
theorem insS_mem : ∀ {l : List Int} {x z : Int}, z ∈ insS l x ↔ z = x ∨ z ∈ l
  | [], x, z => by simp [insS]
  | y :: r, x, z => by
    have ih := insS_mem (l := r) (x := x) (z := z)
    unfold insS
    split
    · rw [List.mem_cons, ih, List.mem_cons]
      constructor
      · rintro (h | h | h)
        · exact .inr (.inl h)
        · exact .inl h
        · exact .inr (.inr h)
      · rintro (h | h | h)
        · exact .inr (.inl h)
        · exact .inl h
        · exact .inr (.inr h)
    · split
      · rename_i h
        constructor
        · intro g
          exact .inr g
        · rintro (g | g)
          · rw [g, ← h]; simp
          · exact g
      · rw [List.mem_cons]
theorem insS_asc : ∀ {l : List Int} {x : Int}, Asc l → Asc (insS l x)
  | [], x, _ => by simp [insS, Asc]
  | y :: r, x, h => by
    obtain ⟨h1, h2⟩ := List.pairwise_cons.1 h
    unfold insS
    split
    · rename_i g
      refine List.pairwise_cons.2 ⟨fun z hz => ?_, insS_asc h2⟩
      rcases insS_mem.1 hz with e | e
      · rw [e]; exact g
      · exact h1 z e
    · split
      · exact h
      · refine List.pairwise_cons.2 ⟨fun z hz => ?_, h⟩
        rcases List.mem_cons.1 hz with e | e
        · omega
        · have := h1 z e; omega
theorem insS_len : ∀ {l : List Int} {x : Int}, (insS l x).length ≤ l.length + 1
  | [], x => by simp [insS]
  | y :: r, x => by
    have ih := insS_len (l := r) (x := x)
    unfold insS
    split
    · simp; omega
    · split <;> simp
theorem asc_le {l : List Int} (h : Asc l) {i j : Nat} (hij : i < j) (hj : j < l.length) : l.getD i 0 < l.getD j 0 := by
  have := List.pairwise_iff_getElem.1 h i j (by omega) hj hij
  rw [List.getD_eq_getElem?_getD, List.getD_eq_getElem?_getD, List.getElem?_eq_getElem hj, List.getElem?_eq_getElem (by omega)]
  exact this
theorem insS_at : ∀ {l : List Int} {x : Int} {i : Nat}, Asc l → i ≤ l.length → (i = 0 ∨ l.getD (i - 1) 0 < x) → (∀ j, i ≤ j → j < l.length → x ≤ l.getD j 0) →
    ((i < l.length ∧ l.getD i 0 = x) → insS l x = l) ∧ (¬(i < l.length ∧ l.getD i 0 = x) → insS l x = l.take i ++ x :: l.drop i)
  | [], x, i, _, hi, _, _ => by
    have : i = 0 := by simpa using hi
    subst this
    refine ⟨fun h => by simp at h, fun _ => by simp [insS]⟩
  | y :: r, x, 0, h, _, _, h2 => by
    have h0 := h2 0 (Nat.le_refl _) (by simp)
    simp only [List.getD_cons_zero] at h0
    refine ⟨fun ⟨_, e⟩ => ?_, fun e => ?_⟩
    · simp only [List.getD_cons_zero] at e
      unfold insS
      rw [if_neg (by omega), if_pos e]
    · have e : ¬ y = x := fun e' => e ⟨by simp, by simpa using e'⟩
      unfold insS
      rw [if_neg (by omega), if_neg e]
      rfl
  | y :: r, x, i + 1, h, hi, h1, h2 => by
    obtain ⟨a1, a2⟩ := List.pairwise_cons.1 h
    have hi' : i ≤ r.length := by simpa using hi
    have hy : y < x := by
      rcases h1 with e | e
      · omega
      · rcases Nat.eq_zero_or_pos i with z | z
        · subst z; simpa using e
        · have := asc_le h (i := 0) (j := i) z (by simp; omega)
          simp only [List.getD_cons_zero] at this
          simp only [Nat.add_sub_cancel] at e
          omega
    have ih := insS_at (l := r) (x := x) (i := i) a2 hi' (by
      rcases Nat.eq_zero_or_pos i with z | z
      · exact .inl z
      · rcases h1 with e | e
        · omega
        · right
          rw [show i + 1 - 1 = (i - 1) + 1 by omega, List.getD_cons_succ] at e
          exact e) fun j j1 j2 => by
        have := h2 (j + 1) (by omega) (by simpa using j2)
        rwa [List.getD_cons_succ] at this
    unfold insS
    rw [if_pos hy]
    refine ⟨fun ⟨e1, e2⟩ => ?_, fun e => ?_⟩
    · rw [ih.1 ⟨by simpa using e1, by rwa [List.getD_cons_succ] at e2⟩]
    · rw [ih.2 fun ⟨e1, e2⟩ => e ⟨by simpa using e1, by rwa [List.getD_cons_succ]⟩]
      rfl
def endsS (l : List Sp) : List Int := l.foldl (fun e s => insS (insS e s.1) s.2) []
theorem endsS_take (l : List Sp) (k : Nat) (hk : k < l.length) : endsS (l.take (k + 1)) = insS (insS (endsS (l.take k)) (l.getD k (0, 0)).1) (l.getD k (0, 0)).2 := by
  unfold endsS
  rw [List.take_add_one, List.foldl_append, List.getElem?_eq_getElem hk]
  simp [List.getD_eq_getElem?_getD, List.getElem?_eq_getElem hk]
theorem endsS_ok (l : List Sp) : ∀ k, k ≤ l.length → Asc (endsS (l.take k)) ∧ (endsS (l.take k)).length ≤ 2 * k ∧ ∀ z, z ∈ endsS (l.take k) ↔ ∃ s ∈ l.take k, z = s.1 ∨ z = s.2
  | 0, _ => by simp [endsS, Asc]
  | k + 1, h => by
    obtain ⟨h1, h2, h3⟩ := endsS_ok l k (by omega)
    rw [endsS_take l k (by omega)]
    have g1 := insS_len (l := insS (endsS (l.take k)) (l.getD k (0, 0)).1) (x := (l.getD k (0, 0)).2)
    have g2 := insS_len (l := endsS (l.take k)) (x := (l.getD k (0, 0)).1)
    have htk : l.take (k + 1) = l.take k ++ [l.getD k (0, 0)] := by
      rw [List.take_add_one, List.getElem?_eq_getElem (by omega), List.getD_eq_getElem?_getD, List.getElem?_eq_getElem (by omega)]; rfl
    refine ⟨insS_asc (insS_asc h1), by omega, fun z => ?_⟩
    rw [insS_mem, insS_mem, h3, htk]
    constructor
    · rintro (e | e | ⟨s, hs, e⟩)
      · exact ⟨_, by simp, .inr e⟩
      · exact ⟨_, by simp, .inl e⟩
      · exact ⟨s, by simp [hs], e⟩
    · rintro ⟨s, hs, e⟩
      rcases List.mem_append.1 hs with g | g
      · exact .inr (.inr ⟨s, g, e⟩)
      · simp only [List.mem_singleton] at g
        subst g
        rcases e with e | e
        · exact .inr (.inl e)
        · exact .inl e
theorem endsS_all (l : List Sp) : Asc (endsS l) ∧ (endsS l).length ≤ 2 * l.length ∧ ∀ z, z ∈ endsS l ↔ ∃ s ∈ l, z = s.1 ∨ z = s.2 := by
  have := endsS_ok l l.length (Nat.le_refl _)
  rwa [List.take_length] at this
theorem in_between : ∀ {l : List Sp} {a b x : Int}, (∀ s ∈ l, (s.1 ≤ a ∨ b ≤ s.1) ∧ (s.2 ≤ a ∨ b ≤ s.2)) → a ≤ x → x < b → inL l x = inL l a
  | [], _, _, _, _, _, _ => rfl
  | s :: r, a, b, x, h, h1, h2 => by
    have ih := in_between (l := r) (fun t ht => h t (by simp [ht])) h1 h2
    obtain ⟨g1, g2⟩ := h s (by simp)
    unfold inL
    rw [ih]
    congr 1
    rw [Bool.eq_iff_iff]
    simp only [Bool.and_eq_true, decide_eq_true_eq]
    omega
def addS (L : List Sp) (s : Sp) : List Sp :=
  if 0 < L.length ∧ (L.getD (L.length - 1) (0, 0)).2 = s.1 then L.dropLast ++ [((L.getD (L.length - 1) (0, 0)).1, s.2)] else L ++ [s]
structure UnI (l : List Sp) (E : List Int) (i : Nat) (L : List Sp) : Prop where
  can : Canon L
  hi : ∀ s ∈ L, s.2 ≤ E.getD i 0
  has : ∀ x, inL L x = (inL l x && decide (x < E.getD i 0))
  len : L.length ≤ i
theorem UnI.start {l : List Sp} : UnI l (endsS l) 0 [] := by
  refine ⟨trivial, fun s hs => by simp at hs, fun x => ?_, Nat.le_refl _⟩
  cases h : inL l x with
  | false => rfl
  | true =>
    obtain ⟨s, hs, h1, h2⟩ := inL_mem h
    have hm : s.1 ∈ endsS l := ((endsS_all l).2.2 _).2 ⟨s, hs, .inl rfl⟩
    obtain ⟨j, hj, e⟩ := List.getElem_of_mem hm
    have hle : (endsS l).getD 0 0 ≤ s.1 := by
      rcases Nat.eq_zero_or_pos j with z | z
      · subst z
        rw [List.getD_eq_getElem?_getD, List.getElem?_eq_getElem hj]
        exact Int.le_of_eq e
      · have := asc_le (endsS_all l).1 z hj
        rw [List.getD_eq_getElem?_getD (i := j), List.getElem?_eq_getElem hj] at this
        simp only [Option.getD_some] at this
        omega
    rw [Bool.true_and, decide_eq_false (by omega)]
    rfl
theorem add_len (L : List Sp) (s : Sp) : (addS L s).length ≤ L.length + 1 := by
  unfold addS
  split <;> simp
theorem UnI.step {l : List Sp} {i : Nat} {L : List Sp} (h : UnI l (endsS l) i L) (hi : i + 1 < (endsS l).length) :
    UnI l (endsS l) (i + 1) (if inL l ((endsS l).getD i 0) = true then addS L ((endsS l).getD i 0, (endsS l).getD (i + 1) 0) else L) := by
  obtain ⟨c, hh, hs, hl⟩ := h
  have ha := (endsS_all l).1
  have hlt := asc_le ha (i := i) (j := i + 1) (by omega) hi
  have hbt : ∀ s ∈ l, (s.1 ≤ (endsS l).getD i 0 ∨ (endsS l).getD (i + 1) 0 ≤ s.1) ∧ (s.2 ≤ (endsS l).getD i 0 ∨ (endsS l).getD (i + 1) 0 ≤ s.2) := fun s hsm => by
    have key : ∀ z ∈ endsS l, z ≤ (endsS l).getD i 0 ∨ (endsS l).getD (i + 1) 0 ≤ z := fun z hz => by
      obtain ⟨j, hj, e⟩ := List.getElem_of_mem hz
      have e' : (endsS l).getD j 0 = z := by rw [List.getD_eq_getElem?_getD, List.getElem?_eq_getElem hj]; exact e
      rw [← e']
      rcases Nat.lt_trichotomy j i with g | g | g
      · exact .inl (Int.le_of_lt (asc_le ha g (by omega)))
      · subst g; exact .inl (Int.le_refl _)
      · rcases Nat.lt_or_ge (i + 1) j with g' | g'
        · exact .inr (Int.le_of_lt (asc_le ha g' hj))
        · have : j = i + 1 := by omega
          subst this; exact .inr (Int.le_refl _)
    exact ⟨key _ (((endsS_all l).2.2 _).2 ⟨s, hsm, .inl rfl⟩), key _ (((endsS_all l).2.2 _).2 ⟨s, hsm, .inr rfl⟩)⟩
  obtain ⟨a, hea⟩ : ∃ a, (endsS l).getD i 0 = a := ⟨_, rfl⟩
  obtain ⟨b, heb⟩ : ∃ b, (endsS l).getD (i + 1) 0 = b := ⟨_, rfl⟩
  rw [hea] at hh hs
  rw [hea, heb] at hlt hbt
  simp only [hea, heb]
  have hin : ∀ x, a ≤ x → x < b → inL l x = inL l a := fun x h1 h2 => in_between hbt h1 h2
  have hhas : ∀ x, (inL l x && decide (x < b)) = (inL L x || (inL l a && (decide (a ≤ x) && decide (x < b)))) := fun x => by
    rw [hs]
    by_cases h1 : x < a
    · have g1 : decide (x < a) = true := decide_eq_true h1
      have g2 : decide (x < b) = true := decide_eq_true (by omega)
      have g3 : decide (a ≤ x) = false := decide_eq_false (by omega)
      rw [g1, g2, g3]; simp
    · have g1 : decide (x < a) = false := decide_eq_false h1
      have g3 : decide (a ≤ x) = true := decide_eq_true (by omega)
      rw [g1, g3]
      by_cases h2 : x < b
      · rw [hin x (by omega) h2]; simp
      · rw [decide_eq_false h2]; simp
  cases hia : inL l a with
  | false =>
    rw [if_neg (by simp)]
    refine ⟨c, fun s hsm => by rw [heb]; have := hh s hsm; omega, fun x => ?_, by omega⟩
    rw [heb, hhas, hia]; simp
  | true =>
    rw [if_pos rfl]
    have hlen := add_len L (a, b)
    refine ⟨?_, ?_, fun x => ?_, by omega⟩
    · unfold addS
      split
      · rename_i g
        have hne : L ≠ [] := fun e => by rw [e] at g; simp at g
        have hsp := last_split hne
        obtain ⟨t, ht⟩ : ∃ t, L.getD (L.length - 1) (0, 0) = t := ⟨_, rfl⟩
        rw [ht] at hsp g ⊢
        rw [hsp] at c
        obtain ⟨c1, c2, c3⟩ := canon_snoc.1 c
        have := g.2
        simp only at this
        exact canon_snoc.2 ⟨c1, by show t.1 < b; omega, c3⟩
      · rename_i g
        refine canon_snoc.2 ⟨c, hlt, fun o ho => ?_⟩
        have h1 := hh o ho
        by_cases he : o.2 = a
        · exfalso
          have h0 : 0 < L.length := List.length_pos_of_mem ho
          apply g
          refine ⟨h0, ?_⟩
          have hne : L ≠ [] := fun e => by rw [e] at h0; simp at h0
          have hsp := last_split hne
          obtain ⟨t, ht⟩ : ∃ t, L.getD (L.length - 1) (0, 0) = t := ⟨_, rfl⟩
          rw [ht] at hsp ⊢
          have htm : t ∈ L := by rw [hsp]; simp
          have ht2 := hh t htm
          have ho' := ho
          rw [hsp] at c ho'
          obtain ⟨c1, c2, c3⟩ := canon_snoc.1 c
          rcases List.mem_append.1 ho' with q | q
          · have := c3 o q
            simp only
            omega
          · simp only [List.mem_singleton] at q
            rw [← q]; exact he
        · show o.2 < a
          omega
    · rw [heb]
      unfold addS
      split
      · rename_i g
        intro s hsm
        rcases List.mem_append.1 hsm with q | q
        · have := hh s (List.dropLast_subset L q); omega
        · simp only [List.mem_singleton] at q; subst q; exact Int.le_refl _
      · intro s hsm
        rcases List.mem_append.1 hsm with q | q
        · have := hh s q; omega
        · simp only [List.mem_singleton] at q; subst q; exact Int.le_refl _
    · rw [heb, hhas, hia, Bool.true_and]
      unfold addS
      split
      · rename_i g
        have hne : L ≠ [] := fun e => by rw [e] at g; simp at g
        have hsp := last_split hne
        obtain ⟨t, ht⟩ : ∃ t, L.getD (L.length - 1) (0, 0) = t := ⟨_, rfl⟩
        rw [ht] at hsp g ⊢
        rw [hsp] at c
        obtain ⟨c1, c2, c3⟩ := canon_snoc.1 c
        have g2 := g.2
        simp only at g2
        have hx : inL L x = (inL L.dropLast x || (decide (t.1 ≤ x) && decide (x < t.2))) := by
          conv => lhs; rw [hsp]
          exact inL_snoc _ _ _
        rw [inL_snoc, hx, Bool.or_assoc]
        congr 1
        rw [Bool.eq_iff_iff]
        simp only [Bool.or_eq_true, Bool.and_eq_true, decide_eq_true_eq]
        omega
      · rw [inL_snoc]
theorem UnI.done {l : List Sp} {i : Nat} {L : List Sp} (h : UnI l (endsS l) i L) (hi : i + 1 = (endsS l).length) : Canon L ∧ ∀ x, inL L x = inL l x := by
  refine ⟨h.can, fun x => ?_⟩
  rw [h.has]
  cases hx : inL l x with
  | false => rfl
  | true =>
    obtain ⟨s, hs, h1, h2⟩ := inL_mem hx
    have hm : s.2 ∈ endsS l := ((endsS_all l).2.2 _).2 ⟨s, hs, .inr rfl⟩
    obtain ⟨j, hj, e⟩ := List.getElem_of_mem hm
    have e' : (endsS l).getD j 0 = s.2 := by rw [List.getD_eq_getElem?_getD, List.getElem?_eq_getElem hj]; exact e
    have hle : s.2 ≤ (endsS l).getD i 0 := by
      rw [← e']
      rcases Nat.lt_or_ge j i with g | g
      · exact Int.le_of_lt (asc_le (endsS_all l).1 g (by omega))
      · have : j = i := by omega
        subst this; exact Int.le_refl _
    rw [Bool.true_and, decide_eq_true (by omega)]
theorem UnI.none {l : List Sp} (h : (endsS l).length = 0) : ∀ x, inL l x = false := fun x => by
  cases hx : inL l x with
  | false => rfl
  | true =>
    obtain ⟨s, hs, h1, h2⟩ := inL_mem hx
    have hm : s.2 ∈ endsS l := ((endsS_all l).2.2 _).2 ⟨s, hs, .inr rfl⟩
    rw [List.eq_nil_of_length_eq_zero h] at hm
    simp at hm
end Wk
end Go.Proofs.YtlbjfbpejomkmaaGreat
