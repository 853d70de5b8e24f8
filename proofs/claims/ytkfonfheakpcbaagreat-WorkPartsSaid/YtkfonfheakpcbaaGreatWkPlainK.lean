/- The runs of a set in an interval, plain. No conditions. -/
import Derived.Test.YtkfonfheakpcbaaGreatWkPlainE
namespace Go.Proofs.YtkfonfheakpcbaaGreat
namespace Wk

theorem canon_snoc : ∀ {l : List Sp} {s : Sp}, Canon (l ++ [s]) ↔ Canon l ∧ s.1 < s.2 ∧ ∀ t ∈ l, t.2 < s.1
  | [], s => by simp [Canon]
  | t :: r, s => by
    have ih := canon_snoc (l := r) (s := s)
    have hm : ∀ u, u ∈ r ++ [s] ↔ u ∈ r ∨ u = s := fun u => by simp
    simp only [List.cons_append, Canon, ih, hm, List.mem_cons]
    constructor
    · rintro ⟨h1, h2, h3, h4, h5⟩
      exact ⟨⟨h1, fun u hu => h2 u (.inl hu), h3⟩, h4, fun u hu => by
        rcases hu with rfl | hu
        · exact h2 s (.inr rfl)
        · exact h5 u hu⟩
    · rintro ⟨⟨h1, h2, h3⟩, h4, h5⟩
      exact ⟨h1, fun u hu => by
        rcases hu with hu | rfl
        · exact h2 u hu
        · exact h5 t (.inl rfl), h3, h4, fun u hu => h5 u (.inr hu)⟩
theorem inL_snoc (l : List Sp) (s : Sp) (x : Int) : inL (l ++ [s]) x = (inL l x || (decide (s.1 ≤ x) && decide (x < s.2))) := by
  induction l with
  | nil => simp [inL]
  | cons t r ih => simp only [List.cons_append, inL, ih, Bool.or_assoc]
theorem getLast_snoc {l : List Sp} {s : Sp} (h : l.getLast? = some s) : l = l.dropLast ++ [s] := by
  have hne : l ≠ [] := by intro e; rw [e] at h; simp at h
  have := List.dropLast_concat_getLast hne
  rw [List.getLast?_eq_some_getLast hne] at h
  rw [Option.some.inj h] at this
  exact this.symm

/-- L is the runs of h among the numbers from f up to, but without, t -/
structure RunsOf (h : Int → Bool) (f t : Int) (L : List Sp) : Prop where
  can : Canon L
  ins : ∀ s ∈ L, f ≤ s.1 ∧ s.2 ≤ t
  on : ∀ s ∈ L, ∀ x, s.1 ≤ x → x < s.2 → h x = true
  off : ∀ s ∈ L, s.2 < t → h s.2 = false
  all : ∀ x, f ≤ x → x < t → h x = true → inL L x = true

theorem memF_runs (h : Int → Bool) (f : Int) : ∀ n : Nat, RunsOf h f (f + n) (memF h f n)
  | 0 => ⟨trivial, fun s hs => by simp [memF] at hs, fun s hs => by simp [memF] at hs, fun s hs => by simp [memF] at hs, fun x h1 h2 => by omega⟩
  | n + 1 => by
    have ih := memF_runs h f n
    have e : f + ((n + 1 : Nat) : Int) = f + n + 1 := by omega
    rw [memF, e]
    by_cases hh : h (f + n) = true
    · rw [if_pos hh]
      have new : (∀ s, (memF h f n).getLast? = some s → s.2 ≠ f + n) → RunsOf h f (f + n + 1) (memF h f n ++ [(f + n, f + n + 1)]) := by
        intro hl
        have hlt : ∀ s ∈ memF h f n, s.2 < f + n := by
          intro s hs
          have h1 := (ih.ins s hs).2
          rcases Int.lt_or_eq_of_le h1 with h2 | h2
          · exact h2
          · exfalso
            have hoff := ih.off
            obtain ⟨z, hz⟩ : ∃ z, (memF h f n).getLast? = some z := by
              cases hg : (memF h f n).getLast? with
              | some z => exact ⟨z, rfl⟩
              | none => rw [List.getLast?_eq_none_iff] at hg; rw [hg] at hs; simp at hs
            have hd := getLast_snoc hz
            have hc := ih.can
            rw [hd, canon_snoc] at hc
            rw [hd] at hs
            rcases List.mem_append.1 hs with h3 | h3
            · have := hc.2.2 s h3
              have := hc.2.1
              have := (ih.ins z (by rw [hd]; simp)).2
              omega
            · simp at h3; subst h3; exact hl s hz h2
        refine ⟨canon_snoc.2 ⟨ih.can, by show f + (n : Int) < f + n + 1; omega, hlt⟩, ?_, ?_, ?_, ?_⟩
        · intro s hs
          rcases List.mem_append.1 hs with h3 | h3
          · have := ih.ins s h3; omega
          · simp at h3; subst h3; exact ⟨by show f ≤ f + (n : Int); omega, Int.le_refl _⟩
        · intro s hs x h1 h2
          rcases List.mem_append.1 hs with h3 | h3
          · exact ih.on s h3 x h1 h2
          · simp at h3; subst h3
            obtain rfl : x = f + n := by simp only at h1 h2; omega
            exact hh
        · intro s hs h1
          rcases List.mem_append.1 hs with h3 | h3
          · exact ih.off s h3 (hlt s h3)
          · simp at h3; subst h3; simp only at h1; omega
        · intro x h1 h2 h3
          rw [inL_snoc]
          by_cases hx : x < f + n
          · rw [ih.all x h1 hx h3]; rfl
          · obtain rfl : x = f + n := by omega
            have : (decide ((f + (n : Int), f + (n : Int) + 1).1 ≤ f + n) && decide (f + (n : Int) < (f + (n : Int), f + (n : Int) + 1).2)) = true := by simp; omega
            rw [this, Bool.or_true]
      cases hg : (memF h f n).getLast? with
      | none => exact new (fun s hs => by rw [hg] at hs; cases hs)
      | some z =>
        simp only
        by_cases hz : z.2 = f + n
        · rw [if_pos hz]
          have hd := getLast_snoc hg
          have hc := ih.can
          rw [hd, canon_snoc] at hc
          have hzm : z ∈ memF h f n := by rw [hd]; simp
          have hmem : ∀ s ∈ (memF h f n).dropLast, s ∈ memF h f n := fun s hs => List.dropLast_subset _ hs
          refine ⟨canon_snoc.2 ⟨hc.1, by show z.1 < f + (n : Int) + 1; have := hc.2.1; omega, hc.2.2⟩, ?_, ?_, ?_, ?_⟩
          · intro s hs
            rcases List.mem_append.1 hs with h3 | h3
            · have := ih.ins s (hmem s h3); omega
            · simp at h3; subst h3; exact ⟨(ih.ins z hzm).1, Int.le_refl _⟩
          · intro s hs x h1 h2
            rcases List.mem_append.1 hs with h3 | h3
            · exact ih.on s (hmem s h3) x h1 h2
            · simp at h3; subst h3
              by_cases hx : x < z.2
              · exact ih.on z hzm x h1 hx
              · obtain rfl : x = f + n := by simp only at h2; omega
                exact hh
          · intro s hs h1
            rcases List.mem_append.1 hs with h3 | h3
            · have h4 := hc.2.2 s h3
              have := hc.2.1
              exact ih.off s (hmem s h3) (by omega)
            · simp at h3; subst h3; simp only at h1; omega
          · intro x h1 h2 h3
            rw [inL_snoc]
            by_cases hx : x < f + n
            · have h4 := ih.all x h1 hx h3
              rw [hd, inL_snoc] at h4
              simp only [Bool.or_eq_true, Bool.and_eq_true, decide_eq_true_eq] at h4 ⊢
              rcases h4 with h4 | ⟨h4, h5⟩
              · exact .inl h4
              · exact .inr ⟨h4, by omega⟩
            · obtain rfl : x = f + n := by omega
              have := hc.2.1
              simp only [Bool.or_eq_true, Bool.and_eq_true, decide_eq_true_eq]
              exact .inr ⟨by omega, by omega⟩
        · rw [if_neg hz]
          exact new (fun s hs => by rw [hg] at hs; cases hs; exact hz)
    · rw [if_neg hh]
      have hh' : h (f + n) = false := by simpa using hh
      refine ⟨ih.can, fun s hs => by have := ih.ins s hs; omega, ih.on, fun s hs h1 => ?_, fun x h1 h2 h3 => ?_⟩
      · have := (ih.ins s hs).2
        rcases Int.lt_or_eq_of_le this with h2 | h2
        · exact ih.off s hs h2
        · rw [h2]; exact hh'
      · by_cases hx : x < f + n
        · exact ih.all x h1 hx h3
        · obtain rfl : x = f + n := by omega
          rw [hh'] at h3; cases h3

/-- what is in a run is a member -/
theorem inL_mem {l : List Sp} {x : Int} (h : inL l x = true) : ∃ s ∈ l, s.1 ≤ x ∧ x < s.2 := by
  induction l with
  | nil => simp [inL] at h
  | cons s r ih =>
    simp only [inL, Bool.or_eq_true, Bool.and_eq_true, decide_eq_true_eq] at h
    rcases h with h | h
    · exact ⟨s, by simp, h⟩
    · obtain ⟨u, hu, h1⟩ := ih h; exact ⟨u, by simp [hu], h1⟩
theorem runs_in {h : Int → Bool} {f t : Int} {L : List Sp} (hr : RunsOf h f t L) {x : Int} (h1 : f ≤ x) (h2 : x < t) : inL L x = h x := by
  cases hh : h x with
  | true => exact hr.all x h1 h2 hh
  | false =>
    cases hi : inL L x with
    | false => rfl
    | true => obtain ⟨s, hs, h3, h4⟩ := inL_mem hi; rw [hr.on s hs x h3 h4] at hh; cases hh
/-- the runs have as many members as the set has there -/
theorem runs_meas {h : Int → Bool} {f t : Int} {L : List Sp} (hr : RunsOf h f t L) (hft : f ≤ t) {G : Int → Int} (hG : Steps1 G h) : meas L = G t - G f := by
  have key : ∀ n : Nat, f + (n : Int) ≤ t → rank L (f + n) = G (f + n) - G f := by
    intro n
    induction n with
    | zero => intro _; rw [show f + ((0 : Nat) : Int) = f by omega, rank_low (fun s hs => (hr.ins s hs).1)]; omega
    | succ n ih =>
      intro hn
      have := ih (by omega)
      have e : f + ((n + 1 : Nat) : Int) = f + n + 1 := by omega
      rw [e, rank_succ _ hr.can, hG (f + n), runs_in hr (by omega) (by omega)]
      omega
  have := key (t - f).toNat (by omega)
  rw [show f + ((t - f).toNat : Int) = t by omega, rank_high hr.can (fun s hs => (hr.ins s hs).2)] at this
  exact this
end Wk
end Go.Proofs.YtkfonfheakpcbaaGreat
