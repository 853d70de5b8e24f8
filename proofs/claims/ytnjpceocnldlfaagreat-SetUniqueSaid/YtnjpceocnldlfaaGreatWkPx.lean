import Derived.Test.YtnjpceocnldlfaaGreatWkRpm
import Derived.Test.YtnjpceocnldlfaaGreatWkWin
import Derived.Test.YtnjpceocnldlfaaGreatWkLF1
/- Runs of two intervals, one behind the other; sets that are equal. -/
namespace Go.Proofs.YtnjpceocnldlfaaGreat
namespace Wk
theorem memF_rv {h : Int → Bool} {f t : Int} (hft : f ≤ t) (h1 : -4398046511104 ≤ f) (h2 : t ≤ 4398046511104) (hl : (memF h f (t - f).toNat).length ≤ 2000) : rvB (memF h f (t - f).toNat) = true :=
  rvB_of (memF_can _ _ _).1 (memF_bnd hft h1 h2) hl
theorem win_zero {g : Bool} {s : St} {f t : Int} (h : (winM g s f t).2 = 0) : g = true ∧ ivB (f, t) = true ∧ (winM g s f t).1 = memF (hasS s) f (t - f).toNat ∧ (memF (hasS s) f (t - f).toNat).length ≤ 2000 := by
  unfold winM at *
  by_cases hb : g = false ∨ ivB (f, t) = false
  · rw [if_pos hb] at h; simp at h
  · rw [if_neg hb] at h ⊢
    by_cases hl : (memF (hasS s) f (t - f).toNat).length ≤ 2000
    · rw [if_pos hl]
      refine ⟨?_, ?_, rfl, hl⟩
      · cases g with
        | true => rfl
        | false => exact absurd (.inl rfl) hb
      · cases hi : ivB (f, t) with
        | true => rfl
        | false => exact absurd (.inr hi) hb
    · rw [if_neg hl] at h; simp at h
theorem eqT_self {s : St} (h : VB s = true) : eqTB s s = true := by
  rw [eqT_same h h]
  unfold sameB
  simp
/-- valid sets with the same numbers are equal -/
theorem eqT_ext {s t : St} (hs : VB s = true) (ht : VB t = true) (h : ∀ x, hasS s x = hasS t x) : eqTB s t = true := by
  rw [VB_uniq hs ht h]
  exact eqT_self ht
/-- the window of a valid set, given as the set's list, is this set again -/
theorem of_window {s : St} {f t : Int} (hs : VB s = true) (hf : f ≤ s.fr) (ht : s.to ≤ t) (hft : f < t) (h1 : -4398046511104 ≤ f) (h2 : t ≤ 4398046511104) (hl : (memF (hasS s) f (t - f).toNat).length ≤ 2000) :
    ofM ⟨s.lf, s.rt, f, t, memF (hasS s) f (t - f).toNat⟩ = (s, 0) := by
  have os := okS_of_VB hs
  have hft' := os.ft
  have hrv := memF_rv (h := hasS s) (by omega) h1 h2 hl
  have hcn := memF_can (hasS s) f (t - f).toNat
  have ok : OkS ⟨s.lf, s.rt, f, t, memF (hasS s) f (t - f).toNat⟩ := by
    refine ⟨os.lf, os.rt, hrv, h1, by show f ≤ t; omega, h2, fun u hu => ?_⟩
    have := hcn.2 u hu
    show f ≤ u.1 ∧ u.2 ≤ t
    omega
  have hg : givenB ⟨s.lf, s.rt, f, t, memF (hasS s) f (t - f).toNat⟩ = true := givenB_ok ok
  unfold ofM
  rw [if_pos hg]
  refine form_back ok hs ?_ rfl rfl fun x => ?_
  · show pairM s.lf.1 s.lf.2 s.rt.1 s.rt.2 = 0
    have h0 : (formF s).2 = 0 := by
      unfold VB at hs
      simp only [Bool.and_eq_true, beq_iff_eq] at hs
      exact hs.1.1.1.1.1.2
    unfold formF at h0
    by_cases hp : pairM s.lf.1 s.lf.2 s.rt.1 s.rt.2 = 0
    · exact hp
    · rw [if_pos hp] at h0
      exact absurd h0 hp
  · unfold hasS
    simp only
    by_cases g1 : x < f
    · rw [if_pos g1, if_pos (by omega)]
    · rw [if_neg g1]
      by_cases g2 : x < t
      · rw [if_pos g2, memF_in (by omega), decide_eq_true (by omega : f ≤ x), decide_eq_true g2]
        rfl
      · rw [if_neg g2, if_neg (by omega), if_neg (by omega)]
end Wk
end Go.Proofs.YtnjpceocnldlfaaGreat
