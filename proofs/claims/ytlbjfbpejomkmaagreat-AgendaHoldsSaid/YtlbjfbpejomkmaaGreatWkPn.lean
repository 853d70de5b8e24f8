import Derived.Test.YtlbjfbpejomkmaaGreatWkPl
/- The reference's working time, plain. -/
namespace Go.Proofs.YtlbjfbpejomkmaaGreat
namespace Wk

end Wk
end Go.Proofs.YtlbjfbpejomkmaaGreat
namespace Go.Proofs.YtlbjfbpejomkmaaGreat
namespace Wk

theorem next_ex (h : Int → Bool) (x : Int) : ∃ q, NextC h x q := by
  by_cases hz : ∃ z, x < z ∧ h (z - 1) ≠ h z
  · obtain ⟨z, h1, h2⟩ := hz
    obtain ⟨j, h3, h4⟩ := least_ex (fun q => h (x + q - 1) ≠ h (x + q)) (z - x).toNat ⟨z - x, by omega, by omega, by rw [show x + (z - x) = z by omega]; exact h2⟩
    refine ⟨some (x + ((j : Int) + 1)), by omega, h4, fun u h5 h6 => ?_⟩
    have := h3 (u - x) (by omega) (by omega)
    rw [show x + (u - x) = u by omega] at this
    exact Classical.not_not.1 this
  · refine ⟨none, fun z h1 => ?_⟩
    exact Classical.not_not.1 fun h2 => hz ⟨z, h1, h2⟩
theorem change_gap {s : St} (hg : GoodS s) {x n c1 c2 : Int} {b1 b2 : Bool} (h1 : NoA s.lf.1 s.lf.2 x b1 c1) (h2 : NoA s.rt.1 s.rt.2 (max x s.to) b2 c2) (n1 : b1 = true → c1 < s.fr → n ≤ c1) (n2 : b2 = true → n ≤ c2)
    (n3 : x < s.fr → n ≤ s.fr) (n4 : x < s.to → n ≤ s.to) (n5 : ∀ e ∈ endsOf s.l, x < e → n ≤ e) : ∀ z, x < z → z < n → hasS s (z - 1) = hasS s z := by
  intro z hz1 hz2
  have hft := hg.ft
  by_cases a1 : z < s.fr
  · rw [has_lf (s := s) (x := z - 1) (by omega), has_lf a1]
    refine h1.2 z hz1 fun hb => ?_
    by_cases hc : c1 < s.fr
    · have := n1 hb hc; omega
    · omega
  · by_cases a2 : z = s.fr
    · subst a2
      have := n3 hz1
      omega
    · by_cases a3 : z < s.to
      · rw [has_mid (s := s) (x := z - 1) (by omega) (by omega), has_mid (by omega) a3]
        refine Classical.not_not.1 fun hne => ?_
        obtain ⟨u, hu, he⟩ := (edge_iff z hg.canon).1 hne
        have := n5 z (endsOf_mem.2 ⟨u, hu, he⟩) hz1
        omega
      · by_cases a4 : z = s.to
        · subst a4
          have := n4 hz1
          omega
        · rw [has_rt (s := s) (x := z - 1) hft (by omega), has_rt hft (by omega)]
          exact h2.2 z (by omega) fun hb => by have := n2 hb; omega
end Wk
end Go.Proofs.YtlbjfbpejomkmaaGreat
namespace Go.Proofs.YtlbjfbpejomkmaaGreat
namespace Wk

def wndP (P : Int) (l : List Sp) (f t : Int) (x : Int) : Bool := (decide (f ≤ x) && decide (x < t)) && hasP (P, l) x
def posW (f t A : Int) (l : List Sp) (i : Nat) : Int := min t (max f (A + endI l i))
structure WInv (P : Int) (l : List Sp) (f t : Int) (L : List Sp) (A : Int) (i : Nat) : Prop where
  inv : LInv (wndP P l f t) L (posW f t A l i)
  mul : ∃ k : Int, A = k * P
theorem WInv.start {P : Int} {l : List Sp} {f t : Int} (hP : 1 ≤ P) (hft : f < t) : WInv P l f t [] (f - f % P) 0 := by
  have r0 := Int.emod_nonneg f (b := P) (by omega)
  refine ⟨LInv.start fun x hx => ?_, f / P, by have := mod_eq f P; omega⟩
  unfold posW at hx
  rw [endI_zero] at hx
  unfold wndP
  rw [decide_eq_false (by omega : ¬ f ≤ x)]; rfl
theorem hasP_mul {P : Int} {l : List Sp} (hg : GoodP (P, l)) {A : Int} (hA : ∃ k : Int, A = k * P) (q : Int) (h0 : A ≤ q) (h1 : q < A + P) : hasP (P, l) q = inL l (q - A) := by
  obtain ⟨k, rfl⟩ := hA
  have := hasP_at hg k (q - k * P) (by omega) (by omega)
  rwa [show k * P + (q - k * P) = q by omega] at this
theorem gap_at {P : Int} {l : List Sp} (hg : GoodP (P, l)) {i : Nat} (hi : i ≤ l.length) (q : Int) (h1 : endI l i ≤ q) (h2 : ∀ _ : i < l.length, q < (l.getD i (0, 0)).1) : inL l q = false := no_mem fun j hj => by
  rcases Nat.lt_or_ge j i with h | h
  · left
    have h3 : (l.getD j (0, 0)).2 ≤ endI l i := by
      unfold endI
      rw [if_neg (by omega)]
      by_cases h4 : j = i - 1
      · subst h4; exact Int.le_refl _
      · have := (canon_lt hg.canon (i := j) (j := i - 1) (by omega) (by simp only; omega)).2
        simp only at this
        omega
    omega
  · right
    have h5 := h2 (by omega)
    by_cases h4 : j = i
    · subst h4; exact h5
    · have := (canon_lt hg.canon (i := i) (j := j) (by omega) hj).1
      have hp := idx_pos hg.canon (j := i) (by simp only; omega)
      simp only at this hp
      omega
theorem wnd_off {P : Int} {l : List Sp} {f t A q : Int} (hg : GoodP (P, l)) (hA : ∃ k : Int, A = k * P) {i : Nat} (hi : i ≤ l.length) (hq1 : posW f t A l i ≤ q) (hq2 : q < A + P) (hgap : ∀ _ : i < l.length, q < A + (l.getD i (0, 0)).1) : wndP P l f t q = false := by
  unfold wndP
  by_cases hqt : q < t
  · have he := endI_le hg hi
    have h1 : A + endI l i ≤ q := by unfold posW at hq1; omega
    rw [hasP_mul hg hA q (by omega) hq2, gap_at hg hi (q - A) (by omega) (fun h => by have := hgap h; omega)]
    simp
  · rw [decide_eq_false hqt]; simp
theorem wnd_on {P : Int} {l : List Sp} {f t A q x y : Int} (hg : GoodP (P, l)) (hA : ∃ k : Int, A = k * P) {i : Nat} (hi : i < l.length) (he : l.getD i (0, 0) = (x, y)) (h1 : max (x + A) f ≤ q) (h2 : q < min (y + A) t) : wndP P l f t q = true := by
  have hmem := idx_mem hi
  have hin := hg.ins _ hmem
  rw [he] at hmem hin
  simp only at hin
  unfold wndP
  rw [hasP_mul hg hA q (by omega) (by omega), inL_of_mem hmem (by simp only; omega) (by simp only; omega), decide_eq_true (by omega), decide_eq_true (by omega)]; rfl
theorem WInv.skip {P : Int} {l L : List Sp} {f t A x y : Int} {i : Nat} (hg : GoodP (P, l)) (H : WInv P l f t L A i) (hi : i < l.length) (he : l.getD i (0, 0) = (x, y)) (hs : min (y + A) t ≤ max (x + A) f) : WInv P l f t L A (i + 1) := by
  have h1 := endI_le hg (Nat.le_of_lt hi)
  have h2 := h1.2.2 hi
  have hin := hg.ins _ (idx_mem hi)
  have hxy := idx_pos hg.canon hi
  simp only at hxy hin
  rw [he] at h2 hin hxy
  simp only at h2 hin hxy
  refine ⟨?_, H.mul⟩
  have hp : posW f t A l (i + 1) = min t (max f (A + y)) := by unfold posW; rw [endI_succ, he]
  rw [hp]
  refine H.inv.off (by unfold posW; omega) fun q hq1 hq2 => ?_
  exact wnd_off hg H.mul (Nat.le_of_lt hi) hq1 (by unfold posW at hq1; omega) (fun _ => by rw [he]; simp only; unfold posW at hq1; omega)
theorem WInv.toFrom {P : Int} {l L : List Sp} {f t A x y : Int} {i : Nat} (hg : GoodP (P, l)) (H : WInv P l f t L A i) (hi : i < l.length) (he : l.getD i (0, 0) = (x, y)) (hs : max (x + A) f < min (y + A) t) : LInv (wndP P l f t) L (max (x + A) f) := by
  have h1 := endI_le hg (Nat.le_of_lt hi)
  have h2 := h1.2.2 hi
  have hin := hg.ins _ (idx_mem hi)
  simp only at hin
  rw [he] at h2 hin
  simp only at h2 hin
  refine H.inv.off (by unfold posW; omega) fun q hq1 hq2 => ?_
  exact wnd_off hg H.mul (Nat.le_of_lt hi) hq1 (by unfold posW at hq1; omega) (fun _ => by rw [he]; simp only; unfold posW at hq1; omega)
theorem posW_succ {l : List Sp} {f t A x y : Int} {i : Nat} (he : l.getD i (0, 0) = (x, y)) (hs : max (x + A) f < min (y + A) t) : posW f t A l (i + 1) = min (y + A) t := by
  unfold posW
  rw [endI_succ, he]
  simp only
  omega
theorem WInv.ext {P : Int} {l K : List Sp} {f t A x y y0 z : Int} {i : Nat} (hg : GoodP (P, l)) (H : WInv P l f t (K ++ [(y0, z)]) A i) (hi : i < l.length) (he : l.getD i (0, 0) = (x, y)) (hs : max (x + A) f < min (y + A) t) (hz : z = max (x + A) f) : WInv P l f t (K ++ [(y0, min (y + A) t)]) A (i + 1) := by
  have h1 := H.toFrom hg hi he hs
  subst hz
  refine ⟨?_, H.mul⟩
  rw [posW_succ he hs]
  exact h1.ext hs fun q a b => wnd_on hg H.mul hi he a b
theorem WInv.new {P : Int} {l L : List Sp} {f t A x y : Int} {i : Nat} (hg : GoodP (P, l)) (H : WInv P l f t L A i) (hi : i < l.length) (he : l.getD i (0, 0) = (x, y)) (hs : max (x + A) f < min (y + A) t) (hz : L = [] ∨ (L.getD (L.length - 1) (0, 0)).2 ≠ max (x + A) f) : WInv P l f t (L ++ [(max (x + A) f, min (y + A) t)]) A (i + 1) := by
  have h1 := H.toFrom hg hi he hs
  refine ⟨?_, H.mul⟩
  rw [posW_succ he hs]
  exact h1.new hs (fun q a b => wnd_on hg H.mul hi he a b) (h1.touch hz)
theorem WInv.round {P : Int} {l L : List Sp} {f t A : Int} (hg : GoodP (P, l)) (H : WInv P l f t L A l.length) : WInv P l f t L (A + P) 0 := by
  have hP : 1 ≤ P := hg.pos
  have h1 := endI_le hg (Nat.le_refl l.length)
  obtain ⟨k, hk⟩ := H.mul
  refine ⟨?_, k + 1, by rw [Int.add_mul]; omega⟩
  refine H.inv.off (by unfold posW; rw [endI_zero]; omega) fun q hq1 hq2 => ?_
  unfold posW at hq2
  rw [endI_zero] at hq2
  by_cases hqt : f ≤ q ∧ q < t
  · exact wnd_off hg H.mul (Nat.le_refl _) hq1 (by omega) (fun h => by omega)
  · unfold wndP
    rcases (by omega : q < f ∨ t ≤ q) with h | h
    · rw [decide_eq_false (by omega : ¬ f ≤ q)]; rfl
    · rw [decide_eq_false (by omega : ¬ q < t)]; simp
theorem wnd_memF {P : Int} {l L : List Sp} {f t z : Int} (hz : z ≤ t) (hf : f ≤ z) (H : LInv (wndP P l f t) L z) : L = memF (hasP (P, l)) f (z - f).toNat := by
  have hr := memF_runs (hasP (P, l)) f (z - f).toNat
  rw [show f + ((z - f).toNat : Int) = z by omega] at hr
  refine canon_ext H.cn hr.can fun x => ?_
  by_cases hx : x < z
  · rw [H.ag x hx]
    unfold wndP
    by_cases hfx : f ≤ x
    · rw [runs_in hr hfx hx, decide_eq_true hfx, decide_eq_true (by omega)]; rfl
    · rw [decide_eq_false hfx, inL_low fun s hs => by have := (hr.ins s hs).1; omega]; rfl
  · rw [inL_high fun s hs => by have := H.bd s hs; omega, inL_high fun s hs => by have := (hr.ins s hs).2; omega]
theorem WInv.done {P : Int} {l L : List Sp} {f t A : Int} (H : WInv P l f t L A 0) (hft : f < t) (hA : t ≤ A) : L = memF (hasP (P, l)) f (t - f).toNat := by
  have hi := H.inv
  unfold posW at hi
  rw [endI_zero, show min t (max f (A + 0)) = t by omega] at hi
  exact wnd_memF (Int.le_refl _) (by omega) hi
end Wk
end Go.Proofs.YtlbjfbpejomkmaaGreat
