import Derived.Test.YtnjpceocnldlfaaGreatWkPl
/- The reference's working time, plain. -/
namespace Go.Proofs.YtnjpceocnldlfaaGreat
namespace Wk

theorem term_eq {x y a b : Int} (hxy : x < y) (hab : a ≤ b) : max 0 (min y b - max x a) = (if x < b then min y b - x else 0) - (if x < a then min y a - x else 0) := by
  split <;> split <;> omega
theorem term_one {x y r : Int} (hxy : x < y) : max 0 (min r y - x) = (if x < r then min y r - x else 0) := by
  split <;> omega
theorem list_succ {l : List Sp} {k : Nat} {x y a b : Int} (h : l.getD k (0, 0) = (x, y)) (hk : k < l.length) (hxy : x < y) (hab : a ≤ b) :
    rank (l.take (k + 1)) b - rank (l.take (k + 1)) a = rank (l.take k) b - rank (l.take k) a + max 0 (min y b - max x a) := by
  rw [rank_take_succ b h hk, rank_take_succ a h hk, term_eq hxy hab]
  omega
theorem below_succ {l : List Sp} {k : Nat} {x y r : Int} (h : l.getD k (0, 0) = (x, y)) (hk : k < l.length) (hxy : x < y) :
    rank (l.take (k + 1)) r = rank (l.take k) r + max 0 (min r y - x) := by
  rw [rank_take_succ r h hk, term_one hxy]
theorem rank_clamp {s : St} (h : GoodS s) (x : Int) : rank s.l x = rank s.l (min (max x s.fr) s.to) := by
  have hft := h.ft
  by_cases h1 : x < s.fr
  · rw [show min (max x s.fr) s.to = s.fr by omega, rank_low fun u hu => by have := (h.ins u hu).1; omega, rank_low fun u hu => (h.ins u hu).1]
  · by_cases h2 : s.to < x
    · rw [show min (max x s.fr) s.to = s.to by omega, rank_high h.canon fun u hu => by have := (h.ins u hu).2; omega, rank_high h.canon fun u hu => (h.ins u hu).2]
    · rw [show min (max x s.fr) s.to = x by omega]
theorem count_eq {s : St} (h : GoodS s) {a b : Int} (hab : a ≤ b) :
    rank s.l b - rank s.l a + (if a < min b s.fr then rankP s.lf (min b s.fr) - rankP s.lf a else 0) + (if max a s.to < b then rankP s.rt b - rankP s.rt (max a s.to) else 0) = potS s b - potS s a := by
  rw [rank_clamp h b, rank_clamp h a]
  unfold potS
  have e1 : (if a < min b s.fr then rankP s.lf (min b s.fr) - rankP s.lf a else 0) = rankP s.lf (min b s.fr) - rankP s.lf (min a s.fr) := by
    split
    · rw [show min a s.fr = a by omega]
    · rw [show min b s.fr = min a s.fr by omega]; omega
  have e2 : (if max a s.to < b then rankP s.rt b - rankP s.rt (max a s.to) else 0) = rankP s.rt (max b s.to) - rankP s.rt (max a s.to) := by
    split
    · rw [show max b s.to = b by omega]
    · rw [show max b s.to = max a s.to by omega]; omega
  rw [e1, e2]
  omega
theorem add_least {s : St} (h : GoodS s) {t n u : Int} (ht : t ≤ 4398046511104) (h0 : 0 ≤ n) (hu1 : t ≤ u) (hu2 : u ≤ 4398046511104) (hn : n ≤ potS s u - potS s t) (hl : ∀ x, t ≤ x → x < u → potS s x - potS s t < n) : addM s t n = (u, 0) := by
  have hm := (potS_steps h).mono u 4398046511104 hu2
  rcases Int.lt_or_eq_of_le h0 with hp | hp
  · obtain ⟨e, a1, a2, a3, a4⟩ := addM_yes h ht hp (by omega)
    rw [e]
    have : addLf s t n = u := by
      rcases Int.lt_trichotomy (addLf s t n) u with h1 | h1 | h1
      · have := hl _ (by omega) h1; omega
      · exact h1
      · have := (potS_steps h).mono u (addLf s t n - 1) (by omega)
        have := a1.2
        omega
    rw [this]
  · subst hp
    rw [addM_zero]
    have : t = u := by
      rcases Int.lt_or_eq_of_le hu1 with h1 | h1
      · have := hl t (Int.le_refl _) h1; omega
      · exact h1
    rw [this]
theorem add_none {s : St} (h : GoodS s) {t n : Int} (ht : t ≤ 4398046511104) (_ : 0 ≤ n) (hn : potS s 4398046511104 - potS s t < n) : addM s t n = (0, 7) := by
  have hm := (potS_steps h).mono t 4398046511104 ht
  exact addM_no h ht (by omega) hn
theorem sub_least {s : St} (h : GoodS s) {t n v : Int} (ht : -4398046511104 ≤ t) (h0 : 0 ≤ n) (hv1 : v ≤ t) (hv2 : -4398046511104 ≤ v) (hn : n ≤ potS s t - potS s v) (hl : ∀ x, v < x → x ≤ t → potS s t - potS s x < n) : subM s t n = (v, 0) := by
  have hm := (potS_steps h).mono (-4398046511104) v hv2
  rcases Int.lt_or_eq_of_le h0 with hp | hp
  · obtain ⟨e, a1, a2, a3⟩ := subM_yes h ht hp (by omega)
    rw [e]
    have : subRt s t n = v := by
      have h4 := a1.next h
      have h5 := a1.2
      rcases Int.lt_trichotomy (subRt s t n) v with h1 | h1 | h1
      · have := (potS_steps h).mono (subRt s t n + 1) v (by omega)
        omega
      · exact h1
      · have := hl _ h1 (by omega); omega
    rw [this]
  · subst hp
    rw [subM_zero]
    have : t = v := by
      rcases Int.lt_or_eq_of_le hv1 with h1 | h1
      · have := hl t h1 (Int.le_refl _); omega
      · exact h1.symm
    rw [this]
theorem sub_none {s : St} (h : GoodS s) {t n : Int} (ht : -4398046511104 ≤ t) (_ : 0 ≤ n) (hn : potS s t - potS s (-4398046511104) < n) : subM s t n = (0, 7) := by
  have hm := (potS_steps h).mono (-4398046511104) t ht
  exact subM_no h ht (by omega) hn
theorem take_canon_mem {l : List Sp} {k : Nat} (h : ∀ s ∈ l, s.1 < s.2) : ∀ s ∈ l.take k, s.1 < s.2 := fun s hs => h s (List.mem_of_mem_take hs)
end Wk
end Go.Proofs.YtnjpceocnldlfaaGreat
