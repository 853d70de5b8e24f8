/- Plain mathematics: the changes of a list next to a number; of a set. No conditions. -/
import Derived.Test.YtkfonfheakpcbaaGreatWkPlainC
namespace Go.Proofs.YtkfonfheakpcbaaGreat
namespace Wk

theorem mem_idx {l : List Sp} {s : Sp} (hs : s ∈ l) : ∃ j, j < l.length ∧ l.getD j (0, 0) = s := by
  obtain ⟨j, hj, e⟩ := List.getElem_of_mem hs
  exact ⟨j, hj, by rw [List.getD_eq_getElem?_getD, List.getElem?_eq_getElem hj]; exact e⟩
theorem idx_mem {l : List Sp} {j : Nat} (hj : j < l.length) : l.getD j (0, 0) ∈ l := by
  rw [List.getD_eq_getElem?_getD, List.getElem?_eq_getElem hj]; exact List.getElem_mem hj
theorem idx_pos {l : List Sp} (hc : Canon l) {j : Nat} (hj : j < l.length) : (l.getD j (0, 0)).1 < (l.getD j (0, 0)).2 := canon_pos hc _ (idx_mem hj)

theorem bnext_fr {l : List Sp} {x a b : Int} {k : Nat} (hc : Canon l) (hk : k < l.length) (he : l.getD k (0, 0) = (a, b)) (h : ∀ j, j < k → (l.getD j (0, 0)).2 ≤ x) (hx : x < a) : NextC (inL l) x (some a) := by
  have hab := idx_pos hc hk
  rw [he] at hab
  refine ⟨hx, (edge_iff a hc).2 ⟨(a, b), by rw [← he]; exact idx_mem hk, Or.inl rfl⟩, ?_⟩
  intro z h1 h2
  apply Decidable.byContradiction
  intro hne
  obtain ⟨s, hs, hz⟩ := (edge_iff z hc).1 hne
  obtain ⟨j, hj, rfl⟩ := mem_idx hs
  have hp := idx_pos hc hj
  rcases Nat.lt_trichotomy j k with hjk | hjk | hjk
  · have := h j hjk; omega
  · subst hjk; rw [he] at hz hp; simp only at hz hp; omega
  · have := canon_lt hc hjk hj
    rw [he] at this; simp only at this hab; omega
theorem bnext_to {l : List Sp} {x a b : Int} {k : Nat} (hc : Canon l) (hk : k < l.length) (he : l.getD k (0, 0) = (a, b)) (h : ∀ j, j < k → (l.getD j (0, 0)).2 ≤ x) (ha : a ≤ x) (hx : x < b) : NextC (inL l) x (some b) := by
  refine ⟨hx, (edge_iff b hc).2 ⟨(a, b), by rw [← he]; exact idx_mem hk, Or.inr rfl⟩, ?_⟩
  intro z h1 h2
  apply Decidable.byContradiction
  intro hne
  obtain ⟨s, hs, hz⟩ := (edge_iff z hc).1 hne
  obtain ⟨j, hj, rfl⟩ := mem_idx hs
  have hp := idx_pos hc hj
  rcases Nat.lt_trichotomy j k with hjk | hjk | hjk
  · have := h j hjk; omega
  · subst hjk; rw [he] at hz hp; simp only at hz hp; omega
  · have := canon_lt hc hjk hj
    rw [he] at this; simp only at this; omega
theorem bnext_no {l : List Sp} {x : Int} (hc : Canon l) (h : ∀ j, j < l.length → (l.getD j (0, 0)).2 ≤ x) : NextC (inL l) x none := by
  intro z h1
  apply Decidable.byContradiction
  intro hne
  obtain ⟨s, hs, hz⟩ := (edge_iff z hc).1 hne
  obtain ⟨j, hj, rfl⟩ := mem_idx hs
  have hp := idx_pos hc hj
  have := h j hj
  omega
theorem bprev_to {l : List Sp} {x a b : Int} {k : Nat} (hc : Canon l) (hk : k < l.length) (he : l.getD k (0, 0) = (a, b)) (h : ∀ j, k < j → j < l.length → x < (l.getD j (0, 0)).1) (hx : b ≤ x) : PrevC (inL l) x (some b) := by
  have hab := idx_pos hc hk
  rw [he] at hab
  refine ⟨hx, (edge_iff b hc).2 ⟨(a, b), by rw [← he]; exact idx_mem hk, Or.inr rfl⟩, ?_⟩
  intro z h1 h2
  apply Decidable.byContradiction
  intro hne
  obtain ⟨s, hs, hz⟩ := (edge_iff z hc).1 hne
  obtain ⟨j, hj, rfl⟩ := mem_idx hs
  have hp := idx_pos hc hj
  rcases Nat.lt_trichotomy j k with hjk | hjk | hjk
  · have := canon_lt hc hjk hk
    rw [he] at this; simp only at this hab; omega
  · subst hjk; rw [he] at hz hp; simp only at hz hp; omega
  · have := h j hjk hj; omega
theorem bprev_fr {l : List Sp} {x a b : Int} {k : Nat} (hc : Canon l) (hk : k < l.length) (he : l.getD k (0, 0) = (a, b)) (h : ∀ j, k < j → j < l.length → x < (l.getD j (0, 0)).1) (hb : x < b) (hx : a ≤ x) : PrevC (inL l) x (some a) := by
  refine ⟨hx, (edge_iff a hc).2 ⟨(a, b), by rw [← he]; exact idx_mem hk, Or.inl rfl⟩, ?_⟩
  intro z h1 h2
  apply Decidable.byContradiction
  intro hne
  obtain ⟨s, hs, hz⟩ := (edge_iff z hc).1 hne
  obtain ⟨j, hj, rfl⟩ := mem_idx hs
  have hp := idx_pos hc hj
  rcases Nat.lt_trichotomy j k with hjk | hjk | hjk
  · have := canon_lt hc hjk hk
    rw [he] at this; simp only at this; omega
  · subst hjk; rw [he] at hz hp; simp only at hz hp; omega
  · have := h j hjk hj; omega
theorem bprev_no {l : List Sp} {x : Int} (hc : Canon l) (h : ∀ j, j < l.length → x < (l.getD j (0, 0)).1) : PrevC (inL l) x none := by
  intro z h1
  apply Decidable.byContradiction
  intro hne
  obtain ⟨s, hs, hz⟩ := (edge_iff z hc).1 hne
  obtain ⟨j, hj, rfl⟩ := mem_idx hs
  have hp := idx_pos hc hj
  have := h j hj
  omega

/-! the next change of a set, out of its parts -/
theorem hasS_lf {s : St} {x : Int} (h : x < s.fr) : hasS s x = hasP s.lf x := by unfold hasS; rw [if_pos h]
theorem hasS_mid {s : St} {x : Int} (h1 : s.fr ≤ x) (h2 : x < s.to) : hasS s x = inL s.l x := by unfold hasS; rw [if_neg (by omega), if_pos h2]
theorem hasS_rt {s : St} {x : Int} (h0 : s.fr ≤ s.to) (h2 : s.to ≤ x) : hasS s x = hasP s.rt x := by unfold hasS; rw [if_neg (by omega), if_neg (by omega)]

/-- a change before the edge of a part is one of the set -/
theorem next_part {h g : Int → Bool} {x e y : Int} (hh : ∀ z, x ≤ z → z < e → h z = g z) (hn : NextC g x (some y)) (hy : y < e) : NextC h x (some y) := by
  obtain ⟨h1, h2, h3⟩ := hn
  refine ⟨h1, ?_, ?_⟩
  · rw [hh (y - 1) (by omega) (by omega), hh y (by omega) hy]; exact h2
  · intro z z1 z2
    rw [hh (z - 1) (by omega) (by omega), hh z (by omega) (by omega)]; exact h3 z z1 z2
/-- no change before the edge -/
theorem const_part {h g : Int → Bool} {x e : Int} {r : Option Int} (hh : ∀ z, x ≤ z → z < e → h z = g z) (hn : NextC g x r) (hr : ∀ y, r = some y → e ≤ y) : ∀ z, x < z → z < e → h (z - 1) = h z := by
  intro z z1 z2
  rw [hh (z - 1) (by omega) (by omega), hh z (by omega) z2]
  cases r with
  | none => exact hn z z1
  | some y => have := hr y rfl; exact hn.2.2 z z1 (by omega)
theorem next_edge {h : Int → Bool} {x e : Int} (hx : x < e) (hc : ∀ z, x < z → z < e → h (z - 1) = h z) (hj : h (e - 1) ≠ h e) : NextC h x (some e) := ⟨hx, hj, hc⟩
theorem next_over {h : Int → Bool} {x e : Int} {r : Option Int} (hx : x < e) (hc : ∀ z, x < z → z < e → h (z - 1) = h z) (hj : h (e - 1) = h e) (hn : NextC h e r) : NextC h x r := by
  cases r with
  | none =>
    intro z z1
    rcases Int.lt_trichotomy z e with hz | hz | hz
    · exact hc z z1 hz
    · subst hz; exact hj
    · exact hn z hz
  | some y =>
    refine ⟨by have := hn.1; omega, hn.2.1, ?_⟩
    intro z z1 z2
    rcases Int.lt_trichotomy z e with hz | hz | hz
    · exact hc z z1 hz
    · subst hz; exact hj
    · exact hn.2.2 z hz z2
theorem next_uniq {h : Int → Bool} {x : Int} {r r' : Option Int} (h1 : NextC h x r) (h2 : NextC h x r') : r = r' := by
  cases r with
  | none =>
    cases r' with
    | none => rfl
    | some y => exact absurd (h1 y h2.1) h2.2.1
  | some y =>
    cases r' with
    | none => exact absurd (h2 y h1.1) h1.2.1
    | some y' =>
      congr 1
      apply Decidable.byContradiction
      intro hne
      rcases Int.lt_or_gt_of_ne hne with hl | hl
      · exact h1.2.1 (h2.2.2 y h1.1 hl)
      · exact h2.2.1 (h1.2.2 y' h2.1 hl)
/-! the first and the last difference -/
def FirstD (d : Int → Bool) (low high : Int) : Option Int → Prop
  | some x => low ≤ x ∧ x < high ∧ d x = true ∧ ∀ z, low ≤ z → z < x → d z = false
  | none => ∀ z, low ≤ z → z < high → d z = false
def LastD (d : Int → Bool) (low high : Int) : Option Int → Prop
  | some x => low ≤ x ∧ x < high ∧ d x = true ∧ ∀ z, x < z → z < high → d z = false
  | none => ∀ z, low ≤ z → z < high → d z = false
theorem const_up {h : Int → Bool} {y : Int} : ∀ (n : Nat), (∀ z, y < z → z ≤ y + n → h (z - 1) = h z) → h (y + n) = h y
  | 0, _ => by simp
  | n + 1, hc => by
    have ih := const_up n (fun z h1 h2 => hc z h1 (by omega))
    have h1 := hc (y + ((n + 1 : Nat) : Int)) (by omega) (by omega)
    rw [show y + ((n + 1 : Nat) : Int) - 1 = y + n by omega] at h1
    rw [← h1, ih]
theorem const_next {h : Int → Bool} {y z : Int} {r : Option Int} (hn : NextC h y r) (hz : y ≤ z) (hr : ∀ k, r = some k → z < k) : h z = h y := by
  obtain ⟨n, rfl⟩ : ∃ n : Nat, z = y + n := ⟨(z - y).toNat, by omega⟩
  refine const_up n (fun u h1 h2 => ?_)
  cases r with
  | none => exact hn u h1
  | some k => have := hr k rfl; exact hn.2.2 u h1 (by omega)
theorem const_down {h : Int → Bool} {y : Int} : ∀ (n : Nat), (∀ z, y - n < z → z ≤ y → h (z - 1) = h z) → h (y - n) = h y
  | 0, _ => by simp
  | n + 1, hc => by
    have ih := const_down n (fun z h1 h2 => hc z (by omega) h2)
    have h1 := hc (y - n) (by omega) (by omega)
    rw [show y - ((n + 1 : Nat) : Int) = y - n - 1 by omega, h1, ih]
theorem const_prev {h : Int → Bool} {y z : Int} {r : Option Int} (hn : PrevC h y r) (hz : z ≤ y) (hr : ∀ k, r = some k → k ≤ z) : h z = h y := by
  obtain ⟨n, rfl⟩ : ∃ n : Nat, z = y - n := ⟨(y - z).toNat, by omega⟩
  refine const_down n (fun u h1 h2 => ?_)
  cases r with
  | none => exact hn u h2
  | some k => have := hr k rfl; exact hn.2.2 u (by omega) h2
theorem first_uniq {d : Int → Bool} {low high : Int} {r r' : Option Int} (h1 : FirstD d low high r) (h2 : FirstD d low high r') : r = r' := by
  cases r with
  | none =>
    cases r' with
    | none => rfl
    | some y => have := h1 y h2.1 h2.2.1; rw [h2.2.2.1] at this; cases this
  | some y =>
    cases r' with
    | none => have := h2 y h1.1 h1.2.1; rw [h1.2.2.1] at this; cases this
    | some y' =>
      congr 1
      apply Decidable.byContradiction
      intro hne
      rcases Int.lt_or_gt_of_ne hne with hl | hl
      · have := h2.2.2.2 y h1.1 hl; rw [h1.2.2.1] at this; cases this
      · have := h1.2.2.2 y' h2.1 hl; rw [h2.2.2.1] at this; cases this
theorem last_uniq {d : Int → Bool} {low high : Int} {r r' : Option Int} (h1 : LastD d low high r) (h2 : LastD d low high r') : r = r' := by
  cases r with
  | none =>
    cases r' with
    | none => rfl
    | some y => have := h1 y h2.1 h2.2.1; rw [h2.2.2.1] at this; cases this
  | some y =>
    cases r' with
    | none => have := h2 y h1.1 h1.2.1; rw [h1.2.2.1] at this; cases this
    | some y' =>
      congr 1
      apply Decidable.byContradiction
      intro hne
      rcases Int.lt_or_gt_of_ne hne with hl | hl
      · have := h1.2.2.2 y' hl h2.2.1; rw [h2.2.2.1] at this; cases this
      · have := h2.2.2.2 y hl h1.2.1; rw [h1.2.2.1] at this; cases this
end Wk
end Go.Proofs.YtkfonfheakpcbaaGreat
