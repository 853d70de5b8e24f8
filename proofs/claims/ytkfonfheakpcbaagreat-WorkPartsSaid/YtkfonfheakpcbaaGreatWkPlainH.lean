/- Days with enough work. No conditions. -/
import Derived.Test.YtkfonfheakpcbaaGreatWkPlainG
namespace Go.Proofs.YtkfonfheakpcbaaGreat
namespace Wk

def dayC (s : St) (f t d : Int) : Int := cnt s (max f (d * 86400)) (min t ((d + 1) * 86400))
/-- the days from d on, of the next n, with enough work -/
def daysL (s : St) (f t least d0 : Int) : Nat → List Int
  | 0 => []
  | n + 1 => daysL s f t least d0 n ++ (if least ≤ dayC s f t (d0 + n) then [d0 + n] else [])

theorem days_len (s : St) (f t least d0 : Int) : ∀ n, (daysL s f t least d0 n).length ≤ n
  | 0 => Nat.le_refl _
  | n + 1 => by
    have ih := days_len s f t least d0 n
    rw [daysL, List.length_append]
    split
    · simp; omega
    · simp; omega
theorem days_mem {s : St} {f t least d0 d : Int} : ∀ n, d ∈ daysL s f t least d0 n ↔ d0 ≤ d ∧ d < d0 + (n : Nat) ∧ least ≤ dayC s f t d
  | 0 => by simp [daysL]; omega
  | n + 1 => by
    have ih := days_mem (s := s) (f := f) (t := t) (least := least) (d0 := d0) (d := d) n
    rw [daysL, List.mem_append, ih]
    constructor
    · rintro (⟨h1, h2, h3⟩ | h)
      · exact ⟨h1, by omega, h3⟩
      · by_cases hc : least ≤ dayC s f t (d0 + n)
        · rw [if_pos hc] at h
          simp at h
          subst h
          exact ⟨by omega, by omega, hc⟩
        · rw [if_neg hc] at h; simp at h
    · rintro ⟨h1, h2, h3⟩
      by_cases hd : d < d0 + n
      · exact .inl ⟨h1, hd, h3⟩
      · obtain rfl : d = d0 + n := by omega
        rw [if_pos h3]
        exact .inr (by simp)
theorem days_sorted {s : St} {f t least d0 : Int} : ∀ n, (daysL s f t least d0 n).Pairwise (· < ·)
  | 0 => List.Pairwise.nil
  | n + 1 => by
    rw [daysL, List.pairwise_append]
    refine ⟨days_sorted n, ?_, ?_⟩
    · split
      · exact List.pairwise_singleton _ _
      · exact List.Pairwise.nil
    · intro a ha b hb
      have := (days_mem n).1 ha
      split at hb
      · simp at hb; omega
      · simp at hb

/-- the day of a second of an interval -/
theorem day_of {s : St} (h : GoodS s) {b : Bool} (hb : b = true) {f t least : Int} (hf : -4398046511104 ≤ f) (hft : f < t) (ht : t ≤ 4398046511104) {x : Int} (h1 : f ≤ x) (h2 : x < t) :
    MeaM b s (max f (x / 86400 * 86400)) (min t ((x / 86400 + 1) * 86400)) = (dayC s f t (x / 86400), 0) ∧
    (x / 86400 ∈ daysL s f t least (f / 86400) ((t - 1) / 86400 - f / 86400 + 1).toNat ↔ least ≤ dayC s f t (x / 86400)) := by
  have hm := mod_lo x (P := 86400) (by omega)
  have e : (x / 86400 + 1) * 86400 = x / 86400 * 86400 + 86400 := by omega
  constructor
  · rw [MeaM_ok h hb ((lineB_iff _).2 (by omega)) ((lineB_iff _).2 (by omega))]
    unfold dayC
    rw [cnt_pot s h.ft _ _ (by omega)]
  · rw [days_mem]
    have d1 : f / 86400 ≤ x / 86400 := Int.ediv_le_ediv (by omega) h1
    have d2 : x / 86400 ≤ (t - 1) / 86400 := Int.ediv_le_ediv (by omega) (by omega)
    omega
end Wk
end Go.Proofs.YtkfonfheakpcbaaGreat
