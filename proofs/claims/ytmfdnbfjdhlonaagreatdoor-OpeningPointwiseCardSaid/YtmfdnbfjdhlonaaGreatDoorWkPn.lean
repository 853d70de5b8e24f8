import Derived.Test.YtmfdnbfjdhlonaaGreatDoorWkPl
/- The reference's working time, plain. -/
namespace Go.Proofs.YtmfdnbfjdhlonaaGreatDoor
namespace Wk

end Wk
end Go.Proofs.YtmfdnbfjdhlonaaGreatDoor
namespace Go.Proofs.YtmfdnbfjdhlonaaGreatDoor
namespace Wk

end Wk
end Go.Proofs.YtmfdnbfjdhlonaaGreatDoor
namespace Go.Proofs.YtmfdnbfjdhlonaaGreatDoor
namespace Wk

end Wk
end Go.Proofs.YtmfdnbfjdhlonaaGreatDoor
namespace Go.Proofs.YtmfdnbfjdhlonaaGreatDoor
namespace Wk

end Wk
end Go.Proofs.YtmfdnbfjdhlonaaGreatDoor
namespace Go.Proofs.YtmfdnbfjdhlonaaGreatDoor
namespace Wk

def joinStep (out : List Sp) (s : Sp) : List Sp :=
 if out = [] then [s] else if s.1 ≤ (out.getD (out.length - 1) (0, 0)).2 then out.dropLast ++ [((out.getD (out.length - 1) (0, 0)).1, max (out.getD (out.length - 1) (0, 0)).2 s.2)] else out ++ [s]
def joinL (l : List Sp) : List Sp := l.foldl joinStep []
theorem join_take (l : List Sp) (k : Nat) (hk : k < l.length) : joinL (l.take (k + 1)) = joinStep (joinL (l.take k)) (l.getD k (0, 0)) := by
 unfold joinL
 rw [List.take_add_one, List.foldl_append, List.getElem?_eq_getElem hk]
 simp [List.getD_eq_getElem?_getD, List.getElem?_eq_getElem hk]
theorem join_len (out : List Sp) (s : Sp) : (joinStep out s).length ≤ out.length + 1 := by
 unfold joinStep
 split
 ·simp
 ·split
  ·simp
  ·simp
theorem joinL_len (l : List Sp) : ∀ k, k ≤ l.length → (joinL (l.take k)).length ≤ k
 | 0, _ => by simp [joinL]
 | k + 1, h => by
  rw [join_take l k (by omega)]
  have := join_len (joinL (l.take k)) (l.getD k (0, 0))
  have := joinL_len l k (by omega)
  omega
theorem last_split {l : List Sp} (h : l ≠ []) : l = l.dropLast ++ [l.getD (l.length - 1) (0, 0)] := by
 have h0 : 0 < l.length := List.length_pos_iff.2 h
 have h1 := List.dropLast_concat_getLast h
 rw [show l.getD (l.length - 1) (0, 0) = l.getLast h by rw [List.getLast_eq_getElem, List.getD_eq_getElem?_getD, List.getElem?_eq_getElem (by omega)]; rfl]
 exact h1.symm
theorem join_ok {out : List Sp} {s : Sp} (hc : Canon out) (hs : s.1 < s.2) (hb : ∀ o ∈ out, o.1 ≤ s.1) :
  Canon (joinStep out s) ∧ (∀ x, inL (joinStep out s) x = (inL out x || (decide (s.1 ≤ x) && decide (x < s.2)))) ∧ ∀ o ∈ joinStep out s, o.1 ≤ s.1 := by
 unfold joinStep
 by_cases h0 : out = []
 ·rw [if_pos h0]
  subst h0
  exact ⟨⟨hs, fun t ht => by simp at ht, trivial⟩, fun x => by simp [inL], fun o ho => by simp at ho; subst ho; exact Int.le_refl _⟩
 ·rw [if_neg h0]
  obtain ⟨t, ht⟩ : ∃ t, out.getD (out.length - 1) (0, 0) = t := ⟨_, rfl⟩
  have hsp := last_split h0
  rw [ht] at hsp ⊢
  obtain ⟨d, hd⟩ : ∃ d, out.dropLast = d := ⟨_, rfl⟩
  rw [hd] at hsp ⊢
  subst hsp
  obtain ⟨c1, c2, c3⟩ := canon_snoc.1 hc
  have hbt := hb t (by simp)
  split
  ·rename_i hle
   refine ⟨canon_snoc.2 ⟨c1, by show t.1 < max t.2 s.2; omega, c3⟩, fun x => ?_, fun o ho => ?_⟩
   ·rw [inL_snoc, inL_snoc, Bool.or_assoc]
    congr 1
    show (decide (t.1 ≤ x) && decide (x < max t.2 s.2)) = _
    rw [Bool.eq_iff_iff]
    simp only [Bool.or_eq_true, Bool.and_eq_true, decide_eq_true_eq]
    omega
   ·rcases List.mem_append.1 ho with h1 | h1
    ·exact hb o (by simp [h1])
    ·simp at h1; subst h1; exact hbt
  ·rename_i hle
   refine ⟨canon_snoc.2 ⟨hc, hs, fun o ho => ?_⟩, fun x => inL_snoc _ _ _, fun o ho => ?_⟩
   ·rcases List.mem_append.1 ho with h1 | h1
    ·have := c3 o h1; omega
    ·simp at h1; subst h1; omega
   ·rcases List.mem_append.1 ho with h1 | h1
    ·exact hb o (by simpa using h1)
    ·simp at h1; subst h1; exact Int.le_refl _
theorem inL_append (a b : List Sp) (x : Int) : inL (a ++ b) x = (inL a x || inL b x) := by
 induction a with
 | nil => simp [inL]
 | cons t r ih => simp only [List.cons_append, inL, ih, Bool.or_assoc]
theorem joinL_ok {l : List Sp} (hp : ∀ s ∈ l, s.1 < s.2) (hs : l.Pairwise (fun a b => a.1 ≤ b.1)) : Canon (joinL l) ∧ ∀ x, inL (joinL l) x = inL l x := by
 have key : ∀ k, k ≤ l.length → Canon (joinL (l.take k)) ∧ (∀ x, inL (joinL (l.take k)) x = inL (l.take k) x) ∧ ∀ o ∈ joinL (l.take k), ∀ s ∈ l.drop k, o.1 ≤ s.1 := by
  intro k
  induction k with
  | zero => intro _; refine ⟨trivial, fun x => rfl, fun o ho => by simp [joinL] at ho⟩
  | succ k ih =>
   intro hk
   obtain ⟨i1, i2, i3⟩ := ih (by omega)
   have hm : l.getD k (0, 0) ∈ l := idx_mem (by omega)
   have hdr : l.drop k = l.getD k (0, 0) :: l.drop (k + 1) := by
    rw [List.drop_eq_getElem_cons (by omega), List.getD_eq_getElem?_getD, List.getElem?_eq_getElem (by omega)]; rfl
   have htk : l.take (k + 1) = l.take k ++ [l.getD k (0, 0)] := by
    rw [List.take_add_one, List.getElem?_eq_getElem (by omega), List.getD_eq_getElem?_getD, List.getElem?_eq_getElem (by omega)]; rfl
   obtain ⟨j1, j2, j3⟩ := join_ok i1 (hp _ hm) (fun o ho => i3 o ho _ (by rw [hdr]; simp))
   rw [join_take l k (by omega)]
   refine ⟨j1, fun x => ?_, fun o ho s hss => ?_⟩
   ·rw [j2, i2, htk, inL_append]
    simp [inL]
   ·have h1 := j3 o ho
    have h2 : (l.drop k).Pairwise (fun a b => a.1 ≤ b.1) := hs.sublist (List.drop_sublist k l)
    rw [hdr] at h2
    have := (List.pairwise_cons.1 h2).1 s hss
    omega
 have := key l.length (Nat.le_refl _)
 rw [List.take_length] at this
 exact ⟨this.1, this.2.1⟩
end Wk
end Go.Proofs.YtmfdnbfjdhlonaaGreatDoor
namespace Go.Proofs.YtmfdnbfjdhlonaaGreatDoor
namespace Wk

def shf (d : Int) (s : Sp) : Sp := (s.1 + d, s.2 + d)
end Wk
end Go.Proofs.YtmfdnbfjdhlonaaGreatDoor
namespace Go.Proofs.YtmfdnbfjdhlonaaGreatDoor
namespace Wk

end Wk
end Go.Proofs.YtmfdnbfjdhlonaaGreatDoor
namespace Go.Proofs.YtmfdnbfjdhlonaaGreatDoor
namespace Wk

end Wk
end Go.Proofs.YtmfdnbfjdhlonaaGreatDoor
namespace Go.Proofs.YtmfdnbfjdhlonaaGreatDoor
namespace Wk

theorem far_prop {l : List Sp} {P : Int} (hP : 1 ≤ P) : ∀ j : Nat, (farB l P j = P ∨ ∃ i : Int, 1 ≤ i ∧ i ≤ j ∧ P % i = 0 ∧ repB l P (P / i) = true ∧ farB l P j = P / i) ∧ ∀ q : Int, 1 ≤ q → q ≤ j → P % q = 0 → repB l P (P / q) = true → farB l P j ≤ P / q
 | 0 => ⟨.inl rfl, fun q h1 h2 => by omega⟩
 | j + 1 => by
  obtain ⟨h1, h2⟩ := far_prop (l := l) hP j
  simp only [farB]
  by_cases hc : P % ((j : Int) + 1) = 0 ∧ repB l P (P / ((j : Int) + 1)) = true
  ·rw [if_pos hc]
   refine ⟨.inr ⟨(j : Int) + 1, by omega, by omega, hc.1, hc.2, rfl⟩, fun q q1 q2 q3 q4 => ?_⟩
   have hd : q ∣ P := Int.dvd_of_emod_eq_zero q3
   have e := Int.mul_ediv_cancel' hd
   have e2 := Int.mul_ediv_cancel' (Int.dvd_of_emod_eq_zero hc.1)
   rcases Int.lt_or_le (P / q) (P / ((j : Int) + 1)) with h | h
   ·exfalso
    have h0 : 0 ≤ P / q := Int.ediv_nonneg (by omega) (by omega)
    have a1 : q * (P / q) ≤ ((j : Int) + 1) * (P / q) := Int.mul_le_mul_of_nonneg_right (by omega) h0
    have a2 : ((j : Int) + 1) * (P / q) < ((j : Int) + 1) * (P / ((j : Int) + 1)) := Int.mul_lt_mul_of_pos_left h (by omega)
    omega
   ·exact h
  ·rw [if_neg hc]
   refine ⟨?_, fun q q1 q2 q3 q4 => ?_⟩
   ·rcases h1 with h1 | ⟨i, a, b, c⟩
    ·exact .inl h1
    ·exact .inr ⟨i, a, by omega, c⟩
   ·by_cases he : q = (j : Int) + 1
    ·subst he; exact absurd ⟨q3, q4⟩ hc
    ·exact h2 q q1 (by omega) q3 q4
theorem least_prop {l : List Sp} {P : Int} (hP : 1 ≤ P) : (leastM l P = P ∨ repB l P (leastM l P) = true) ∧ 1 ≤ leastM l P ∧ leastM l P ≤ P ∧ P % leastM l P = 0 ∧ ∀ g : Int, 1 ≤ g → P % g = 0 → repB l P g = true → leastM l P ≤ g := by
 by_cases hh : ∀ q : Int, 1 ≤ q → q * q ≤ P → ¬(P % q = 0 ∧ repB l P q = true)
 ·obtain ⟨j, h1, h2⟩ := root_ex P.toNat
  have h1' : (j : Int) * j ≤ P := by
   have : ((j * j : Nat) : Int) ≤ (P.toNat : Int) := by exact_mod_cast h1
   rw [Int.natCast_mul] at this; omega
  have h2' : ¬ ((j : Int) + 1) * (j + 1) ≤ P := by
   have : (P.toNat : Int) < (((j + 1) * (j + 1) : Nat) : Int) := by exact_mod_cast h2
   rw [Int.natCast_mul] at this
   have e : ((j + 1 : Nat) : Int) = (j : Int) + 1 := by omega
   rw [e] at this; omega
  rw [least_far hh (.inr h1') h2']
  obtain ⟨f1, f2⟩ := far_prop (l := l) hP j
  have hmin : ∀ g : Int, 1 ≤ g → P % g = 0 → repB l P g = true → farB l P j ≤ g := by
   intro g hg hd hr
   have hgg : ¬ g * g ≤ P := fun h => hh g hg h ⟨hd, hr⟩
   have e := Int.mul_ediv_add_emod P g
   rw [hd] at e
   have hq1 : 1 ≤ P / g := by
    rcases Int.lt_or_le (P / g) 1 with h | h
    ·have : g * (P / g) ≤ g * 0 := Int.mul_le_mul_of_nonneg_left (by omega) (by omega)
     omega
    ·exact h
   have hqg : P / g < g := by
    rcases Int.lt_or_le (P / g) g with h | h
    ·exact h
    ·have : g * g ≤ g * (P / g) := Int.mul_le_mul_of_nonneg_left h (by omega)
     omega
   have hd2 : P % (P / g) = 0 := by
    have : P / g * g = P := by rw [Int.mul_comm]; omega
    exact Int.emod_eq_zero_of_dvd ⟨g, this.symm⟩
   have hdiv : P / (P / g) = g := Int.ediv_eq_of_eq_mul_right (by omega) (by rw [Int.mul_comm]; omega)
   have hqj : P / g ≤ j := by
    rcases Int.lt_or_le (j : Int) (P / g) with h | h
    ·have a1 : ((j : Int) + 1) * (j + 1) ≤ (P / g) * (j + 1) := Int.mul_le_mul_of_nonneg_right (by omega) (by omega)
     have a2 : (P / g) * ((j : Int) + 1) ≤ (P / g) * (P / g) := Int.mul_le_mul_of_nonneg_left (by omega) (by omega)
     have a3 : (P / g) * (P / g) ≤ g * (P / g) := Int.mul_le_mul_of_nonneg_right (by omega) (by omega)
     omega
    ·exact h
   have := f2 (P / g) hq1 hqj hd2 (by rw [hdiv]; exact hr)
   rwa [hdiv] at this
  rcases f1 with f1 | ⟨i, i1, i2, i3, i4, i5⟩
  ·rw [f1] at hmin ⊢
   exact ⟨.inl rfl, hP, Int.le_refl _, Int.emod_self, hmin⟩
  ·rw [i5] at hmin ⊢
   have hd : i ∣ P := Int.dvd_of_emod_eq_zero i3
   have e := Int.mul_ediv_cancel' hd
   have g1 : 1 ≤ P / i := by
    rcases Int.lt_or_le (P / i) 1 with h | h
    ·have : i * (P / i) ≤ i * 0 := Int.mul_le_mul_of_nonneg_left (by omega) (by omega)
     omega
    ·exact h
   exact ⟨.inr i4, g1, Int.ediv_le_self _ (by omega), Int.emod_eq_zero_of_dvd ⟨i, by rw [Int.mul_comm]; exact e.symm⟩, hmin⟩
 ·have hx : ∃ q : Int, 1 ≤ q ∧ q ≤ (P.toNat : Int) ∧ (q * q ≤ P ∧ P % q = 0 ∧ repB l P q = true) := by
   rcases Classical.not_forall.1 hh with ⟨q, h⟩
   rcases Classical.not_forall.1 h with ⟨h1, h⟩
   rcases Classical.not_forall.1 h with ⟨h2, h⟩
   have h3 := Classical.not_not.1 h
   refine ⟨q, h1, ?_, h2, h3⟩
   have : q * 1 ≤ q * q := Int.mul_le_mul_of_nonneg_left (by omega) (by omega)
   omega
  obtain ⟨j, h1, h2, h3, h4⟩ := least_ex _ _ hx
  have e := least_hit (j := j) hP (fun q a b c => h1 q a b ⟨by
   have a1 : q * q ≤ ((j : Int) + 1) * q := Int.mul_le_mul_of_nonneg_right (by omega) (by omega)
   have a2 : ((j : Int) + 1) * q ≤ ((j : Int) + 1) * (j + 1) := Int.mul_le_mul_of_nonneg_left (by omega) (by omega)
   omega, c⟩) h2 h3 h4
  rw [e]
  have hle : (j : Int) + 1 ≤ P := by
   have : ((j : Int) + 1) * 1 ≤ ((j : Int) + 1) * (j + 1) := Int.mul_le_mul_of_nonneg_left (by omega) (by omega)
   omega
  refine ⟨.inr h4, by omega, hle, h3, fun g g1 g2 g3 => ?_⟩
  rcases Int.lt_or_le (j : Int) g with h | h
  ·omega
  ·exfalso
   refine h1 g g1 h ⟨?_, g2, g3⟩
   have a1 : g * g ≤ ((j : Int) + 1) * g := Int.mul_le_mul_of_nonneg_right (by omega) (by omega)
   have a2 : ((j : Int) + 1) * g ≤ ((j : Int) + 1) * (j + 1) := Int.mul_le_mul_of_nonneg_left (by omega) (by omega)
   omega
theorem cut_clip : ∀ {l : List Sp} {b : Int}, Canon l → (∀ s ∈ l, 0 ≤ s.1) → cutM l b = clipM l 0 b
 | [], _, _, _ => rfl
 | s :: r, b, hc, hi => by
  have ih := cut_clip (l := r) (b := b) hc.2.2 fun t ht => hi t (by simp [ht])
  have h0 := hi s (by simp)
  have h1 := hc.1
  have e : max s.1 0 = s.1 := by omega
  rw [clip_cons, ← ih, e]
  unfold cutM
  by_cases h : s.1 < b
  ·rw [if_pos (by omega), List.filter_cons_of_pos (by simpa using h)]
   rfl
  ·rw [if_neg (by omega), List.filter_cons_of_neg (by simpa using h)]
   rfl
theorem cut_has {l : List Sp} {P b : Int} (hg : GoodP (P, l)) (hb : 1 ≤ b) (hbP : b ≤ P) (hd : P % b = 0) (hr : b = P ∨ repB l P b = true) : GoodP (b, cutM l b) ∧ ∀ x, hasP (b, cutM l b) x = hasP (P, l) x := by
 have hc := hg.canon
 have hi := hg.ins
 simp only at hc hi
 rw [cut_clip hc fun s hs => (hi s hs).1]
 have hcc : Canon (clipM l 0 b) := clip_canon hc
 have hin : inside b (clipM l 0 b) := inside_of_in hcc fun x hx => by
  rw [clip_in] at hx
  simp at hx
  omega
 refine ⟨⟨hb, hcc, hin⟩, fun x => ?_⟩
 have hper : ∀ x, hasP (P, l) (x + b) = hasP (P, l) x := by
  rcases hr with rfl | hr
  ·intro x
   have := hasP_period (b, l) hb x 1
   rwa [Int.one_mul] at this
  ·exact (rep_iff (p := (P, l)) hg hb hbP).1 hr
 have hk : ∀ (k : Int) x, hasP (P, l) (x + k * b) = hasP (P, l) x := by
  intro k x
  rcases Int.le_total 0 k with h | h
  ·have := per_mul hper k.toNat x
   rwa [Int.toNat_of_nonneg h] at this
  ·have := per_mul hper (-k).toNat (x + k * b)
   rw [Int.toNat_of_nonneg (by omega), Int.neg_mul, show x + k * b + -(k * b) = x by omega] at this
   exact this.symm
 have hm := mod_lo x hb
 unfold hasP
 simp only
 rw [clip_in, decide_eq_true hm.1, decide_eq_true hm.2]
 have h2 := hk (-(x / b)) x
 rw [Int.neg_mul] at h2
 have h3 := hasP_in (P, l) hg.pos (x := x - x / b * b) hm.1 (by simp only; omega)
 rw [show x + -(x / b * b) = x - x / b * b by omega, h3] at h2
 simp only [Bool.and_self, Bool.true_and]
 simp only at h2
 rw [h2]
 rfl
theorem insB_of {l : List Sp} {P : Int} (hc : Canon l) (hi : inside P l) (hP : P ≤ 4398046511104) (hl : l.length ≤ 2000) : insB l P = true := by
 have hr : rvB l = true := by
  rw [rvB_iff]
  refine ⟨hl, fun i hi' => ?_⟩
  have hm := idx_mem hi'
  have h1 := hi _ hm
  have h2 := idx_pos hc hi'
  unfold okAt
  rw [Bool.and_eq_true]
  refine ⟨(ivB_iff _).2 ⟨by omega, by omega, by omega⟩, ?_⟩
  by_cases h0 : i = 0
  ·subst h0; simp
  ·have := canon_lt hc (i := i - 1) (j := i) (by omega) hi'
   rw [Bool.or_eq_true, decide_eq_true_eq]
   exact .inr this.1
 unfold insB
 rw [hr, Bool.true_and]
 by_cases h0 : l.length = 0
 ·rw [h0]; rfl
 ·have a := hi _ (idx_mem (j := 0) (by omega : 0 < l.length))
  have b := hi _ (idx_mem (j := l.length - 1) (by omega : l.length - 1 < l.length))
  unfold firstFr lastTo
  simp only [Bool.or_eq_true, Bool.and_eq_true, decide_eq_true_eq]
  exact .inr ⟨a.1, b.2⟩
theorem least_form {l : List Sp} {P : Int} (hg : GoodP (P, l)) (hP2 : P ≤ 12622780800) (hl : (cutM l (leastM l P)).length ≤ 2000) :
  pvB (leastM l P) (cutM l (leastM l P)) = true ∧ ∀ x, hasP (leastM l P, cutM l (leastM l P)) x = hasP (P, l) x := by
 have hP : 1 ≤ P := hg.pos
 obtain ⟨h1, h2, h3, h4, h5⟩ := least_prop (l := l) hP
 obtain ⟨b, hb⟩ : ∃ b, leastM l P = b := ⟨_, rfl⟩
 rw [hb] at h1 h2 h3 h4 h5 hl ⊢
 obtain ⟨g1, g2⟩ := cut_has hg h2 h3 h4 h1
 refine ⟨?_, g2⟩
 obtain ⟨k1, k2, k3, k4, k5⟩ := least_prop (l := cutM l b) h2
 obtain ⟨c, hc⟩ : ∃ c, leastM (cutM l b) b = c := ⟨_, rfl⟩
 have hcb : leastM (cutM l b) b = b := by
  rw [hc] at k1 k2 k3 k4 k5 ⊢
  rcases k1 with h | h
  ·exact h
  ·have hp := (rep_iff (p := (b, cutM l b)) g1 k2 k3).1 h
   have hp2 : ∀ z, hasP (P, l) (z + c) = hasP (P, l) z := fun z => by rw [← g2, ← g2]; exact hp z
   have hdvd : c ∣ P := Int.dvd_trans (Int.dvd_of_emod_eq_zero k4) (Int.dvd_of_emod_eq_zero h4)
   have := h5 c k2 (Int.emod_eq_zero_of_dvd hdvd) ((rep_iff (p := (P, l)) hg k2 (by simp only; omega)).2 hp2)
   omega
 unfold pvB
 rw [hcb, insB_of g1.canon g1.ins (by omega) hl]
 simp
 omega
end Wk
end Go.Proofs.YtmfdnbfjdhlonaaGreatDoor
namespace Go.Proofs.YtmfdnbfjdhlonaaGreatDoor
namespace Wk

end Wk
end Go.Proofs.YtmfdnbfjdhlonaaGreatDoor
namespace Go.Proofs.YtmfdnbfjdhlonaaGreatDoor
namespace Wk
def aL : List Sp := [(0, 1)]
theorem ak_pe {P : Int} {l : List Sp} (h : pvB P l = true) : peB P l P l = true := by
 unfold peB; rw [h]; simp
theorem ak_pair {P : Int} {l : List Sp} (h : pvB P l = true) : pairM P l P l = 0 := by
 unfold pairM; rw [if_pos (ak_pe h)]
theorem ak_VB {s : St} (h1 : pvB s.lf.1 s.lf.2 = true) (h2 : pvB s.rt.1 s.rt.2 = true) (h3 : (decide (s.fr ≤ s.to) && lineB s.fr && lineB s.to && rvB s.l && (decide (s.l = []) || (decide (s.fr ≤ (s.l.getD 0 (0, 0)).1) && decide ((s.l.getD (s.l.length - 1) (0, 0)).2 ≤ s.to)))) = true) (hf : formF s = (s, 0)) : VB s = true := by
 have hg : givenB s = true := by
  unfold givenB
  rw [h1, h2]
  simpa only [Bool.true_and, Bool.and_assoc] using h3
 unfold VB
 rw [hg, hf]
 simp only [ak_pe h1, ak_pe h2]
 simp
def a7 : St := ⟨(7, aL), (7, aL), 0, 0, []⟩
def aB : St := ⟨(2, aL), (4, aL), 7, 7, []⟩
end Wk
end Go.Proofs.YtmfdnbfjdhlonaaGreatDoor
namespace Go.Proofs.YtmfdnbfjdhlonaaGreatDoor
namespace Wk

end Wk
end Go.Proofs.YtmfdnbfjdhlonaaGreatDoor
namespace Go.Proofs.YtmfdnbfjdhlonaaGreatDoor
namespace Wk

theorem memF_can (h : Int → Bool) (f : Int) (n : Nat) : Canon (memF h f n) ∧ ∀ s ∈ memF h f n, f ≤ s.1 ∧ s.2 ≤ f + (n : Int) := by
 have hr := memF_runs h f n
 exact ⟨hr.can, hr.ins⟩
end Wk
end Go.Proofs.YtmfdnbfjdhlonaaGreatDoor
namespace Go.Proofs.YtmfdnbfjdhlonaaGreatDoor
namespace Wk
theorem form_pure {p : Per} (h : pvB p.1 p.2 = true) : formF (pureF p) = (pureF p, 0) := by
 have he : earlyB (pureF p) = true := by
  unfold earlyB pureF
  simp only [ak_pe h]
  rfl
 exact form_early (ak_pair h) he
theorem VB_pure {p : Per} (h : pvB p.1 p.2 = true) : VB (pureF p) = true := ak_VB h h rfl (form_pure h)
end Wk
end Go.Proofs.YtmfdnbfjdhlonaaGreatDoor
