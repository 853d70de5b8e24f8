import Derived.Test.YtnjpceocnldlfaaGreatWkRpm
import Derived.Test.YtnjpceocnldlfaaGreatWkWin
import Derived.Test.YtnjpceocnldlfaaGreatWkLF1
/- Runs of two intervals, one behind the other; sets that are equal. -/
namespace Go.Proofs.YtnjpceocnldlfaaGreat
namespace Wk
theorem allV_app {a b : List Sp} (h : allV a = true) (h' : allV b = true) : allV (a ++ b) = true := by
  unfold allV at *
  rw [List.all_append, h, h']; rfl
theorem memF_rv {h : Int → Bool} {f t : Int} (hft : f ≤ t) (h1 : -4398046511104 ≤ f) (h2 : t ≤ 4398046511104) (hl : (memF h f (t - f).toNat).length ≤ 2000) : rvB (memF h f (t - f).toNat) = true :=
  rvB_of (memF_can _ _ _).1 (memF_bnd hft h1 h2) hl
theorem runs_join {h : Int → Bool} {a b c : Int} (hab : a < b) (hbc : b < c) (h1 : -4398046511104 ≤ a) (h2 : c ≤ 4398046511104)
    (la : (memF h a (b - a).toNat).length ≤ 2000) (lb : (memF h b (c - b).toNat).length ≤ 2000) (hl : (memF h a (c - a).toNat).length ≤ 2000) :
    runsOfM (memF h a (b - a).toNat ++ memF h b (c - b).toNat) = (memF h a (c - a).toNat, 0) := by
  have va : allV (memF h a (b - a).toNat ++ memF h b (c - b).toNat) = true :=
    allV_app (allV_rv (memF_rv (by omega) h1 (by omega) la)) (allV_rv (memF_rv (by omega) (by omega) h2 lb))
  unfold runsOfM
  rw [if_neg (by rw [va]; simp), ← un_of va (memF_can h a (c - a).toNat).1 fun x => ?_]
  · unfold dnM
    rw [if_neg (by omega)]
  · rw [memF_in (by omega), inL_append, memF_in (by omega), memF_in (by omega), ← Bool.and_or_distrib_right]
    congr 1
    rw [Bool.eq_iff_iff]
    simp only [Bool.or_eq_true, Bool.and_eq_true, decide_eq_true_eq]
    omega
theorem win_zero {g : Bool} {s : St} {f t : Int} (h : (winM g s f t).2 = 0) : g = true ∧ ivB (f, t) = true ∧ (winM g s f t).1 = memF (hasS s) f (t - f).toNat ∧ (memF (hasS s) f (t - f).toNat).length ≤ 2000 := by
  unfold winM at *
  by_cases hb : g = false ∨ ivB (f, t) = false
  · rw [if_pos hb] at h; simp at h
  · rw [if_neg hb] at h ⊢
    by_cases hl : (memF (hasS s) f (t - f).toNat).length ≤ 2000
    · rw [if_pos hl]
      refine ⟨?_, ?_, rfl, hl⟩
      · cases g with
        | true => rfl
        | false => exact absurd (.inl rfl) hb
      · cases hi : ivB (f, t) with
        | true => rfl
        | false => exact absurd (.inr hi) hb
    · rw [if_neg hl] at h; simp at h
end Wk
end Go.Proofs.YtnjpceocnldlfaaGreat
