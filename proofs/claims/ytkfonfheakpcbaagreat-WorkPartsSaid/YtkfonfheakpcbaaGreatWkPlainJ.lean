/- Where the members lie that adding and subtracting reach. No conditions. -/
import Derived.Test.YtkfonfheakpcbaaGreatWkPlainG
namespace Go.Proofs.YtkfonfheakpcbaaGreat
namespace Wk
theorem in_lf {s : St} (h : GoodS s) {t n : Int} (h1 : t < s.fr) (hn : 0 < n) (h2 : n ≤ cnt s t s.fr) : 0 < meas s.lf.2 ∧ t ≤ nthP s.lf (rankP s.lf t + n - 1) ∧ nthP s.lf (rankP s.lf t + n - 1) < s.fr := by
  have hft := h.ft
  rw [cnt_pot s hft t s.fr (by omega), potS_lf hft (Int.le_refl s.fr), potS_lf hft (show t ≤ s.fr by omega)] at h2
  have hm := meas_pos h.lf (x := t) (y := s.fr) (by omega)
  obtain ⟨e1, e2⟩ := nthP_spec h.lf (rankP s.lf t + n - 1) hm
  exact ⟨hm, (rankP_steps h.lf).le_of e2 (by omega), (rankP_steps h.lf).lt_of (by omega)⟩
theorem in_mid {s : St} (h : GoodS s) {t n : Int} (h0 : s.fr ≤ t) (h1 : t < s.to) (hn : 0 < n) (h2 : n ≤ cnt s t s.to) :
    0 ≤ rank s.l t + n - 1 ∧ rank s.l t + n - 1 < meas s.l ∧ t ≤ nth s.l (rank s.l t + n - 1) ∧ nth s.l (rank s.l t + n - 1) < s.to := by
  have hft := h.ft
  rw [cnt_pot s hft t s.to (by omega), potS_mid h0 (show t ≤ s.to by omega), potS_mid hft (Int.le_refl s.to)] at h2
  have b1 := rank_bounds t h.canon
  have b2 := rank_bounds s.to h.canon
  obtain ⟨e1, e2⟩ := nth_spec (rank s.l t + n - 1) h.canon (by omega) (by omega)
  exact ⟨by omega, by omega, (rank_steps h.canon).le_of e2 (by omega), (rank_steps h.canon).lt_of (by omega)⟩
theorem in_rt {s : St} (h : GoodS s) {t n X : Int} (ht : s.to ≤ t) (hn : 0 < n) (hX : n ≤ potS s X - potS s t) : 0 < meas s.rt.2 ∧ t ≤ nthP s.rt (rankP s.rt t + n - 1) ∧ nthP s.rt (rankP s.rt t + n - 1) < X := by
  have hft := h.ft
  have hlt : t < X := (potS_steps h).lt_of (by omega)
  rw [potS_rt hft ht, potS_rt hft (show s.to ≤ X by omega)] at hX
  have hm := meas_pos h.rt (x := t) (y := X) (by omega)
  obtain ⟨e1, e2⟩ := nthP_spec h.rt (rankP s.rt t + n - 1) hm
  exact ⟨hm, (rankP_steps h.rt).le_of e2 (by omega), (rankP_steps h.rt).lt_of (by omega)⟩
theorem su_rt {s : St} (h : GoodS s) {t n : Int} (h1 : s.to < t) (hn : 0 < n) (h2 : n ≤ cnt s s.to t) : 0 < meas s.rt.2 ∧ s.to ≤ nthP s.rt (rankP s.rt t - n) ∧ nthP s.rt (rankP s.rt t - n) < t := by
  have hft := h.ft
  rw [cnt_pot s hft s.to t (by omega), potS_rt hft (Int.le_refl s.to), potS_rt hft (show s.to ≤ t by omega)] at h2
  have hm := meas_pos h.rt (x := s.to) (y := t) (by omega)
  obtain ⟨e1, e2⟩ := nthP_spec h.rt (rankP s.rt t - n) hm
  exact ⟨hm, (rankP_steps h.rt).le_of e2 (by omega), (rankP_steps h.rt).lt_of (by omega)⟩
theorem su_mid {s : St} (h : GoodS s) {t n : Int} (h0 : t ≤ s.to) (h1 : s.fr < t) (hn : 0 < n) (h2 : n ≤ cnt s s.fr t) :
    0 ≤ rank s.l t - n ∧ rank s.l t - n < meas s.l ∧ s.fr ≤ nth s.l (rank s.l t - n) ∧ nth s.l (rank s.l t - n) < t := by
  have hft := h.ft
  rw [cnt_pot s hft s.fr t (by omega), potS_mid (show s.fr ≤ t by omega) h0, potS_mid (Int.le_refl s.fr) hft] at h2
  have b1 := rank_bounds t h.canon
  have b2 := rank_bounds s.fr h.canon
  obtain ⟨e1, e2⟩ := nth_spec (rank s.l t - n) h.canon (by omega) (by omega)
  exact ⟨by omega, by omega, (rank_steps h.canon).le_of e2 (by omega), (rank_steps h.canon).lt_of (by omega)⟩
theorem su_lf {s : St} (h : GoodS s) {t n X : Int} (ht : t ≤ s.fr) (hn : 0 < n) (hX : n ≤ potS s t - potS s X) : 0 < meas s.lf.2 ∧ X ≤ nthP s.lf (rankP s.lf t - n) ∧ nthP s.lf (rankP s.lf t - n) < t := by
  have hft := h.ft
  have hlt : X < t := (potS_steps h).lt_of (by omega)
  rw [potS_lf hft ht, potS_lf hft (show X ≤ s.fr by omega)] at hX
  have hm := meas_pos h.lf (x := X) (y := t) (by omega)
  obtain ⟨e1, e2⟩ := nthP_spec h.lf (rankP s.lf t - n) hm
  exact ⟨hm, (rankP_steps h.lf).le_of e2 (by omega), (rankP_steps h.lf).lt_of (by omega)⟩
end Wk
end Go.Proofs.YtkfonfheakpcbaaGreat
