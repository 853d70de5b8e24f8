import Derived.Test.YtlbjfbpejomkmaaGreatWkPl
/- The reference's working time, plain. -/
namespace Go.Proofs.YtlbjfbpejomkmaaGreat
namespace Wk

theorem add_least {s : St} (h : GoodS s) {t n u : Int} (ht : t ≤ 4398046511104) (h0 : 0 ≤ n) (hu1 : t ≤ u) (hu2 : u ≤ 4398046511104) (hn : n ≤ potS s u - potS s t) (hl : ∀ x, t ≤ x → x < u → potS s x - potS s t < n) : addM s t n = (u, 0) := by
 have hm := (potS_steps h).mono u 4398046511104 hu2
 rcases Int.lt_or_eq_of_le h0 with hp | hp
 ·obtain ⟨e, a1, a2, a3, a4⟩ := addM_yes h ht hp (by omega)
  rw [e]
  have : addLf s t n = u := by
   rcases Int.lt_trichotomy (addLf s t n) u with h1 | h1 | h1
   ·have := hl _ (by omega) h1; omega
   ·exact h1
   ·have := (potS_steps h).mono u (addLf s t n - 1) (by omega)
    have := a1.2
    omega
  rw [this]
 ·subst hp
  rw [addM_zero]
  have : t = u := by
   rcases Int.lt_or_eq_of_le hu1 with h1 | h1
   ·have := hl t (Int.le_refl _) h1; omega
   ·exact h1
  rw [this]
end Wk
end Go.Proofs.YtlbjfbpejomkmaaGreat
namespace Go.Proofs.YtlbjfbpejomkmaaGreat
namespace Wk

theorem next_ex (h : Int → Bool) (x : Int) : ∃ q, NextC h x q := by
 by_cases hz : ∃ z, x < z ∧ h (z - 1) ≠ h z
 ·obtain ⟨z, h1, h2⟩ := hz
  obtain ⟨j, h3, h4⟩ := least_ex (fun q => h (x + q - 1) ≠ h (x + q)) (z - x).toNat ⟨z - x, by omega, by omega, by rw [show x + (z - x) = z by omega]; exact h2⟩
  refine ⟨some (x + ((j : Int) + 1)), by omega, h4, fun u h5 h6 => ?_⟩
  have := h3 (u - x) (by omega) (by omega)
  rw [show x + (u - x) = u by omega] at this
  exact Classical.not_not.1 this
 ·refine ⟨none, fun z h1 => ?_⟩
  exact Classical.not_not.1 fun h2 => hz ⟨z, h1, h2⟩
theorem change_gap {s : St} (hg : GoodS s) {x n c1 c2 : Int} {b1 b2 : Bool} (h1 : NoA s.lf.1 s.lf.2 x b1 c1) (h2 : NoA s.rt.1 s.rt.2 (max x s.to) b2 c2) (n1 : b1 = true → c1 < s.fr → n ≤ c1) (n2 : b2 = true → n ≤ c2)
  (n3 : x < s.fr → n ≤ s.fr) (n4 : x < s.to → n ≤ s.to) (n5 : ∀ e ∈ endsOf s.l, x < e → n ≤ e) : ∀ z, x < z → z < n → hasS s (z - 1) = hasS s z := by
 intro z hz1 hz2
 have hft := hg.ft
 by_cases a1 : z < s.fr
 ·rw [has_lf (s := s) (x := z - 1) (by omega), has_lf a1]
  refine h1.2 z hz1 fun hb => ?_
  by_cases hc : c1 < s.fr
  ·have := n1 hb hc; omega
  ·omega
 ·by_cases a2 : z = s.fr
  ·subst a2
   have := n3 hz1
   omega
  ·by_cases a3 : z < s.to
   ·rw [has_mid (s := s) (x := z - 1) (by omega) (by omega), has_mid (by omega) a3]
    refine Classical.not_not.1 fun hne => ?_
    obtain ⟨u, hu, he⟩ := (edge_iff z hg.canon).1 hne
    have := n5 z (endsOf_mem.2 ⟨u, hu, he⟩) hz1
    omega
   ·by_cases a4 : z = s.to
    ·subst a4
     have := n4 hz1
     omega
    ·rw [has_rt (s := s) (x := z - 1) hft (by omega), has_rt hft (by omega)]
     exact h2.2 z (by omega) fun hb => by have := n2 hb; omega
end Wk
end Go.Proofs.YtlbjfbpejomkmaaGreat
namespace Go.Proofs.YtlbjfbpejomkmaaGreat
namespace Wk

end Wk
end Go.Proofs.YtlbjfbpejomkmaaGreat
