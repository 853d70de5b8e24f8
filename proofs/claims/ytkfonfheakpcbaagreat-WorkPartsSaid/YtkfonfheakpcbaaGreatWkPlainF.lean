/- Plain mathematics of adding and subtracting working time. No conditions. -/
import Derived.Test.YtkfonfheakpcbaaGreatWkPlainA
namespace Go.Proofs.YtkfonfheakpcbaaGreat
namespace Wk

theorem rankP_zero {p : Per} (h : GoodP p) (hm : meas p.2 = 0) (x : Int) : rankP p x = 0 := by
  have := rank_bounds (x - x / p.1 * p.1) h.canon
  unfold rankP
  rw [hm] at this ⊢
  omega
theorem meas_pos {p : Per} (h : GoodP p) {x y : Int} (hd : rankP p x < rankP p y) : 0 < meas p.2 := by
  have h0 := meas_nonneg h.canon
  rcases Int.lt_or_eq_of_le h0 with h1 | h1
  · exact h1
  · rw [rankP_zero h h1.symm, rankP_zero h h1.symm] at hd; omega

theorem potS_rt {s : St} (h : s.fr ≤ s.to) {x : Int} (hx : s.to ≤ x) : potS s x = rankP s.lf s.fr + rank s.l s.to + rankP s.rt x := by
  unfold potS
  rw [show min x s.fr = s.fr by omega, show min (max x s.fr) s.to = s.to by omega, show max x s.to = x by omega]
theorem potS_mid {s : St} {x : Int} (h1 : s.fr ≤ x) (h2 : x ≤ s.to) : potS s x = rankP s.lf s.fr + rank s.l x + rankP s.rt s.to := by
  unfold potS
  rw [show min x s.fr = s.fr by omega, show min (max x s.fr) s.to = x by omega, show max x s.to = s.to by omega]
theorem potS_lf {s : St} (h : s.fr ≤ s.to) {x : Int} (hx : x ≤ s.fr) : potS s x = rankP s.lf x + rank s.l s.fr + rankP s.rt s.to := by
  unfold potS
  rw [show min x s.fr = x by omega, show min (max x s.fr) s.to = s.fr by omega, show max x s.to = s.to by omega]

theorem has_lf {s : St} {x : Int} (h : x < s.fr) : hasS s x = hasP s.lf x := by unfold hasS; rw [if_pos h]
theorem has_mid {s : St} {x : Int} (h1 : s.fr ≤ x) (h2 : x < s.to) : hasS s x = inL s.l x := by unfold hasS; rw [if_neg (by omega), if_pos h2]
theorem has_rt {s : St} {x : Int} (h0 : s.fr ≤ s.to) (h2 : s.to ≤ x) : hasS s x = hasP s.rt x := by unfold hasS; rw [if_neg (by omega), if_neg (by omega)]

/-! ## adding -/
def addR (s : St) (t n : Int) : Int := nthP s.rt (rankP s.rt t + n - 1) + 1
def addMid (s : St) (t n : Int) : Int :=
  if t < s.to then (if n ≤ cnt s t s.to then nth s.l (rank s.l t + n - 1) + 1 else addR s s.to (n - cnt s t s.to)) else addR s t n
def addLf (s : St) (t n : Int) : Int :=
  if t < s.fr then (if n ≤ cnt s t s.fr then nthP s.lf (rankP s.lf t + n - 1) + 1 else addMid s s.fr (n - cnt s t s.fr)) else addMid s t n
def addM (s : St) (t n : Int) : Int × Int :=
  if n = 0 then (t, 0) else if cnt s t 4398046511104 < n then (0, 7) else (addLf s t n, 0)

/-- the working second of a rank -/
def AtPot (s : St) (x g : Int) : Prop := hasS s x = true ∧ potS s x = g

theorem addR_spec {s : St} (h : GoodS s) {t n X : Int} (ht : s.to ≤ t) (hn : 0 < n) (hX : n ≤ potS s X - potS s t) : AtPot s (addR s t n - 1) (potS s t + n - 1) := by
  have hft := h.ft
  have hst := potS_steps h
  have hlt : t < X := hst.lt_of (by omega)
  rw [potS_rt hft ht, potS_rt hft (show s.to ≤ X by omega)] at hX
  have hm := meas_pos h.rt (x := t) (y := X) (by omega)
  obtain ⟨e1, e2⟩ := nthP_spec h.rt (rankP s.rt t + n - 1) hm
  have hge : t ≤ nthP s.rt (rankP s.rt t + n - 1) := (rankP_steps h.rt).le_of e2 (by omega)
  unfold addR AtPot
  rw [Int.add_sub_cancel, has_rt hft (by omega), potS_rt hft (show s.to ≤ nthP s.rt (rankP s.rt t + n - 1) by omega), potS_rt hft ht]
  exact ⟨e2, by omega⟩
theorem addMid_spec {s : St} (h : GoodS s) {t n X : Int} (ht : s.fr ≤ t) (hn : 0 < n) (hX : n ≤ potS s X - potS s t) : AtPot s (addMid s t n - 1) (potS s t + n - 1) := by
  have hft := h.ft
  have hst := potS_steps h
  unfold addMid
  by_cases h1 : t < s.to
  · rw [if_pos h1]
    have hc := cnt_pot s hft t s.to (by omega)
    by_cases h2 : n ≤ cnt s t s.to
    · rw [if_pos h2]
      rw [hc, potS_mid ht (show t ≤ s.to by omega), potS_mid hft (Int.le_refl s.to)] at h2
      have b1 := rank_bounds t h.canon
      have b2 := rank_bounds s.to h.canon
      obtain ⟨e1, e2⟩ := nth_spec (rank s.l t + n - 1) h.canon (by omega) (by omega)
      have hge : t ≤ nth s.l (rank s.l t + n - 1) := (rank_steps h.canon).le_of e2 (by omega)
      have hlt : nth s.l (rank s.l t + n - 1) < s.to := (rank_steps h.canon).lt_of (by omega)
      unfold AtPot
      rw [Int.add_sub_cancel, has_mid (by omega) hlt, potS_mid (show s.fr ≤ nth s.l (rank s.l t + n - 1) by omega) (by omega), potS_mid ht (by omega)]
      exact ⟨e2, by omega⟩
    · rw [if_neg h2]
      have := addR_spec h (t := s.to) (n := n - cnt s t s.to) (X := X) (Int.le_refl _) (by omega) (by omega)
      rwa [show potS s s.to + (n - cnt s t s.to) - 1 = potS s t + n - 1 by omega] at this
  · rw [if_neg h1]
    exact addR_spec h (by omega) hn hX
theorem addLf_spec {s : St} (h : GoodS s) {t n X : Int} (hn : 0 < n) (hX : n ≤ potS s X - potS s t) : AtPot s (addLf s t n - 1) (potS s t + n - 1) := by
  have hft := h.ft
  have hst := potS_steps h
  unfold addLf
  by_cases h1 : t < s.fr
  · rw [if_pos h1]
    have hc := cnt_pot s hft t s.fr (by omega)
    by_cases h2 : n ≤ cnt s t s.fr
    · rw [if_pos h2]
      rw [hc, potS_lf hft (Int.le_refl s.fr), potS_lf hft (show t ≤ s.fr by omega)] at h2
      have hm := meas_pos h.lf (x := t) (y := s.fr) (by omega)
      obtain ⟨e1, e2⟩ := nthP_spec h.lf (rankP s.lf t + n - 1) hm
      have hge : t ≤ nthP s.lf (rankP s.lf t + n - 1) := (rankP_steps h.lf).le_of e2 (by omega)
      have hlt : nthP s.lf (rankP s.lf t + n - 1) < s.fr := (rankP_steps h.lf).lt_of (by omega)
      unfold AtPot
      rw [Int.add_sub_cancel, has_lf hlt, potS_lf hft (Int.le_of_lt hlt), potS_lf hft (show t ≤ s.fr by omega)]
      exact ⟨e2, by omega⟩
    · rw [if_neg h2]
      have := addMid_spec h (t := s.fr) (n := n - cnt s t s.fr) (X := X) (Int.le_refl _) (by omega) (by omega)
      rwa [show potS s s.fr + (n - cnt s t s.fr) - 1 = potS s t + n - 1 by omega] at this
  · rw [if_neg h1]
    exact addMid_spec h (by omega) hn hX

/-! ## subtracting -/
def subL (s : St) (t n : Int) : Int := nthP s.lf (rankP s.lf t - n)
def subMid (s : St) (t n : Int) : Int :=
  if s.fr < t then (if n ≤ cnt s s.fr t then nth s.l (rank s.l t - n) else subL s s.fr (n - cnt s s.fr t)) else subL s t n
def subRt (s : St) (t n : Int) : Int :=
  if s.to < t then (if n ≤ cnt s s.to t then nthP s.rt (rankP s.rt t - n) else subMid s s.to (n - cnt s s.to t)) else subMid s t n
def subM (s : St) (t n : Int) : Int × Int :=
  if n = 0 then (t, 0) else if cnt s (-4398046511104) t < n then (0, 7) else (subRt s t n, 0)

theorem subL_spec {s : St} (h : GoodS s) {t n X : Int} (ht : t ≤ s.fr) (hn : 0 < n) (hX : n ≤ potS s t - potS s X) : AtPot s (subL s t n) (potS s t - n) := by
  have hft := h.ft
  have hst := potS_steps h
  have hlt : X < t := hst.lt_of (by omega)
  rw [potS_lf hft ht, potS_lf hft (show X ≤ s.fr by omega)] at hX
  have hm := meas_pos h.lf (x := X) (y := t) (by omega)
  obtain ⟨e1, e2⟩ := nthP_spec h.lf (rankP s.lf t - n) hm
  have hlt : nthP s.lf (rankP s.lf t - n) < t := (rankP_steps h.lf).lt_of (by omega)
  unfold subL AtPot
  rw [has_lf (show nthP s.lf (rankP s.lf t - n) < s.fr by omega), potS_lf hft (show nthP s.lf (rankP s.lf t - n) ≤ s.fr by omega), potS_lf hft ht]
  exact ⟨e2, by omega⟩
theorem subMid_spec {s : St} (h : GoodS s) {t n X : Int} (ht : t ≤ s.to) (hn : 0 < n) (hX : n ≤ potS s t - potS s X) : AtPot s (subMid s t n) (potS s t - n) := by
  have hft := h.ft
  have hst := potS_steps h
  unfold subMid
  by_cases h1 : s.fr < t
  · rw [if_pos h1]
    have hc := cnt_pot s hft s.fr t (by omega)
    by_cases h2 : n ≤ cnt s s.fr t
    · rw [if_pos h2]
      rw [hc, potS_mid (show s.fr ≤ t by omega) ht, potS_mid (Int.le_refl s.fr) hft] at h2
      have b1 := rank_bounds t h.canon
      have b2 := rank_bounds s.fr h.canon
      obtain ⟨e1, e2⟩ := nth_spec (rank s.l t - n) h.canon (by omega) (by omega)
      have hlt : nth s.l (rank s.l t - n) < t := (rank_steps h.canon).lt_of (by omega)
      have hge : s.fr ≤ nth s.l (rank s.l t - n) := (rank_steps h.canon).le_of e2 (by omega)
      unfold AtPot
      rw [has_mid hge (by omega), potS_mid hge (by omega), potS_mid (show s.fr ≤ t by omega) (by omega)]
      exact ⟨e2, by omega⟩
    · rw [if_neg h2]
      have := subL_spec h (t := s.fr) (n := n - cnt s s.fr t) (X := X) (Int.le_refl _) (by omega) (by omega)
      rwa [show potS s s.fr - (n - cnt s s.fr t) = potS s t - n by omega] at this
  · rw [if_neg h1]
    exact subL_spec h (by omega) hn hX
theorem subRt_spec {s : St} (h : GoodS s) {t n X : Int} (hn : 0 < n) (hX : n ≤ potS s t - potS s X) : AtPot s (subRt s t n) (potS s t - n) := by
  have hft := h.ft
  have hst := potS_steps h
  unfold subRt
  by_cases h1 : s.to < t
  · rw [if_pos h1]
    have hc := cnt_pot s hft s.to t (by omega)
    by_cases h2 : n ≤ cnt s s.to t
    · rw [if_pos h2]
      rw [hc, potS_rt hft (Int.le_refl s.to), potS_rt hft (show s.to ≤ t by omega)] at h2
      have hm := meas_pos h.rt (x := s.to) (y := t) (by omega)
      obtain ⟨e1, e2⟩ := nthP_spec h.rt (rankP s.rt t - n) hm
      have hge : s.to ≤ nthP s.rt (rankP s.rt t - n) := (rankP_steps h.rt).le_of e2 (by omega)
      unfold AtPot
      rw [has_rt hft hge, potS_rt hft hge, potS_rt hft (show s.to ≤ t by omega)]
      exact ⟨e2, by omega⟩
    · rw [if_neg h2]
      have := subMid_spec h (t := s.to) (n := n - cnt s s.to t) (X := X) (Int.le_refl _) (by omega) (by omega)
      rwa [show potS s s.to - (n - cnt s s.to t) = potS s t - n by omega] at this
  · rw [if_neg h1]
    exact subMid_spec h (by omega) hn hX

/-! ## bounds -/
theorem meas_le_in {P : Int} : ∀ {l : List Sp} {a : Int}, Canon l → (∀ s ∈ l, a ≤ s.1 ∧ s.2 ≤ P) → a ≤ P → meas l ≤ P - a
  | [], a, _, _, h => by simp only [meas]; omega
  | s :: r, a, hc, hi, h => by
    have h0 := hi s (by simp)
    have h1 := hc.1
    have := meas_le_in (l := r) (a := s.2) (P := P) hc.2.2 (fun t ht => ⟨by have := hc.2.1 t ht; omega, (hi t (by simp [ht])).2⟩) (by omega)
    simp only [meas]; omega
theorem meas_le {p : Per} (h : GoodP p) : 0 ≤ meas p.2 ∧ meas p.2 ≤ p.1 := by
  have h1 := meas_nonneg h.canon
  have h2 := meas_le_in (a := 0) (P := p.1) h.canon (fun s hs => by have := h.ins s hs; omega) (by have := h.pos; omega)
  omega
theorem rankP_bd {p : Per} (h : GoodP p) (x : Int) : (0 ≤ x → 0 ≤ rankP p x ∧ rankP p x ≤ x) ∧ (x ≤ 0 → x ≤ rankP p x ∧ rankP p x ≤ 0) := by
  have h0 : rankP p 0 = 0 := by
    unfold rankP
    rw [Int.zero_ediv]
    simp only [Int.zero_mul, Int.zero_sub, Int.neg_zero, Int.zero_add]
    exact rank_low fun s hs => (h.ins s hs).1
  constructor
  · intro hx
    have := (rankP_steps h).mono 0 x hx
    omega
  · intro hx
    have := (rankP_steps h).mono x 0 hx
    omega
end Wk
end Go.Proofs.YtkfonfheakpcbaaGreat
