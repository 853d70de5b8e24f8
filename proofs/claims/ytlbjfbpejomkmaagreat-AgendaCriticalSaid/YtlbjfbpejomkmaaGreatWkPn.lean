import Derived.Test.YtlbjfbpejomkmaaGreatWkPl
/- The reference's working time, plain. -/
namespace Go.Proofs.YtlbjfbpejomkmaaGreat
namespace Wk

end Wk
end Go.Proofs.YtlbjfbpejomkmaaGreat
namespace Go.Proofs.YtlbjfbpejomkmaaGreat
namespace Wk

theorem next_ex (h : Int → Bool) (x : Int) : ∃ q, NextC h x q := by
 by_cases hz : ∃ z, x < z ∧ h (z - 1) ≠ h z
 ·obtain ⟨z, h1, h2⟩ := hz
  obtain ⟨j, h3, h4⟩ := least_ex (fun q => h (x + q - 1) ≠ h (x + q)) (z - x).toNat ⟨z - x, by omega, by omega, by rw [show x + (z - x) = z by omega]; exact h2⟩
  refine ⟨some (x + ((j : Int) + 1)), by omega, h4, fun u h5 h6 => ?_⟩
  have := h3 (u - x) (by omega) (by omega)
  rw [show x + (u - x) = u by omega] at this
  exact Classical.not_not.1 this
 ·refine ⟨none, fun z h1 => ?_⟩
  exact Classical.not_not.1 fun h2 => hz ⟨z, h1, h2⟩
theorem change_gap {s : St} (hg : GoodS s) {x n c1 c2 : Int} {b1 b2 : Bool} (h1 : NoA s.lf.1 s.lf.2 x b1 c1) (h2 : NoA s.rt.1 s.rt.2 (max x s.to) b2 c2) (n1 : b1 = true → c1 < s.fr → n ≤ c1) (n2 : b2 = true → n ≤ c2)
  (n3 : x < s.fr → n ≤ s.fr) (n4 : x < s.to → n ≤ s.to) (n5 : ∀ e ∈ endsOf s.l, x < e → n ≤ e) : ∀ z, x < z → z < n → hasS s (z - 1) = hasS s z := by
 intro z hz1 hz2
 have hft := hg.ft
 by_cases a1 : z < s.fr
 ·rw [has_lf (s := s) (x := z - 1) (by omega), has_lf a1]
  refine h1.2 z hz1 fun hb => ?_
  by_cases hc : c1 < s.fr
  ·have := n1 hb hc; omega
  ·omega
 ·by_cases a2 : z = s.fr
  ·subst a2
   have := n3 hz1
   omega
  ·by_cases a3 : z < s.to
   ·rw [has_mid (s := s) (x := z - 1) (by omega) (by omega), has_mid (by omega) a3]
    refine Classical.not_not.1 fun hne => ?_
    obtain ⟨u, hu, he⟩ := (edge_iff z hg.canon).1 hne
    have := n5 z (endsOf_mem.2 ⟨u, hu, he⟩) hz1
    omega
   ·by_cases a4 : z = s.to
    ·subst a4
     have := n4 hz1
     omega
    ·rw [has_rt (s := s) (x := z - 1) hft (by omega), has_rt hft (by omega)]
     exact h2.2 z (by omega) fun hb => by have := n2 hb; omega
end Wk
end Go.Proofs.YtlbjfbpejomkmaaGreat
namespace Go.Proofs.YtlbjfbpejomkmaaGreat
namespace Wk

end Wk
end Go.Proofs.YtlbjfbpejomkmaaGreat
namespace Go.Proofs.YtlbjfbpejomkmaaGreat
namespace Wk

end Wk
end Go.Proofs.YtlbjfbpejomkmaaGreat
namespace Go.Proofs.YtlbjfbpejomkmaaGreat
namespace Wk

end Wk
end Go.Proofs.YtlbjfbpejomkmaaGreat
namespace Go.Proofs.YtlbjfbpejomkmaaGreat
namespace Wk

end Wk
end Go.Proofs.YtlbjfbpejomkmaaGreat
namespace Go.Proofs.YtlbjfbpejomkmaaGreat
namespace Wk

def mulM (P Q : Int) : Int := P / (Int.gcd P Q : Int) * Q
theorem mulM_bd {P Q : Int} (hP : 1 ≤ P) (hQ : 1 ≤ Q) : 1 ≤ P / (Int.gcd P Q : Int) ∧ P / (Int.gcd P Q : Int) ≤ P ∧ 1 ≤ mulM P Q := by
 have hg : 0 < Int.gcd P Q := Int.gcd_pos_of_ne_zero_left _ (by omega)
 have hle := Int.le_of_dvd (by omega) (Int.gcd_dvd_left (a := P) (b := Q))
 have h1 : 1 ≤ P / (Int.gcd P Q : Int) := Int.le_ediv_of_mul_le (by omega) (by omega)
 refine ⟨h1, Int.ediv_le_self _ (by omega), ?_⟩
 unfold mulM
 have := Int.mul_le_mul h1 hQ (by omega) (by omega)
 omega
theorem mulM_left {P Q : Int} : ∃ c : Int, mulM P Q = c * P := by
 have hd : (Int.gcd P Q : Int) ∣ Q := Int.gcd_dvd_right ..
 have hd2 : (Int.gcd P Q : Int) ∣ P := Int.gcd_dvd_left ..
 obtain ⟨k, hk⟩ := hd
 refine ⟨k, ?_⟩
 unfold mulM
 have h1 := Int.ediv_mul_cancel hd2
 calc P / (Int.gcd P Q : Int) * Q = P / (Int.gcd P Q : Int) * ((Int.gcd P Q : Int) * k) := by rw [← hk]
  _ = P / (Int.gcd P Q : Int) * (Int.gcd P Q : Int) * k := by rw [Int.mul_assoc]
  _ = k * P := by rw [h1, Int.mul_comm]
theorem mulM_right {P Q : Int} : ∃ c : Int, mulM P Q = c * Q := ⟨_, rfl⟩
theorem common_mulM {P Q : Int} (hQ : 1 ≤ Q) : (12622780800 < commonM P Q ↔ 12622780800 < mulM P Q) ∧ (¬ 12622780800 < mulM P Q → commonM P Q = mulM P Q) := by
 have e : 12622780800 / Q < P / (Int.gcd P Q : Int) ↔ 12622780800 < mulM P Q := by
  unfold mulM
  rw [Int.ediv_lt_iff_lt_mul (by omega)]
 unfold commonM
 by_cases h : 12622780800 / Q < P / (Int.gcd P Q : Int)
 ·rw [if_pos h]
  exact ⟨⟨fun _ => e.1 h, fun _ => by omega⟩, fun hn => absurd (e.1 h) hn⟩
 ·rw [if_neg h]
  exact ⟨Iff.rfl, fun _ => rfl⟩
def pairR (P : Int) (la : Nat) (Q : Int) (lb : Nat) : Int × Int :=
 if 12622780800 < mulM P Q then (0, 9) else if 2000 < mulM P Q / P * la + mulM P Q / Q * lb then (0, 5) else (mulM P Q, 0)
end Wk
end Go.Proofs.YtlbjfbpejomkmaaGreat
namespace Go.Proofs.YtlbjfbpejomkmaaGreat
namespace Wk

end Wk
end Go.Proofs.YtlbjfbpejomkmaaGreat
namespace Go.Proofs.YtlbjfbpejomkmaaGreat
namespace Wk
def aL : List Sp := [(0, 1)]
theorem ak_pe {P : Int} {l : List Sp} (h : pvB P l = true) : peB P l P l = true := by
 unfold peB; rw [h]; simp
theorem ak_pair {P : Int} {l : List Sp} (h : pvB P l = true) : pairM P l P l = 0 := by
 unfold pairM; rw [if_pos (ak_pe h)]
theorem ak_VB {s : St} (h1 : pvB s.lf.1 s.lf.2 = true) (h2 : pvB s.rt.1 s.rt.2 = true) (h3 : (decide (s.fr ≤ s.to) && lineB s.fr && lineB s.to && rvB s.l && (decide (s.l = []) || (decide (s.fr ≤ (s.l.getD 0 (0, 0)).1) && decide ((s.l.getD (s.l.length - 1) (0, 0)).2 ≤ s.to)))) = true) (hf : formF s = (s, 0)) : VB s = true := by
 have hg : givenB s = true := by
  unfold givenB
  rw [h1, h2]
  simpa only [Bool.true_and, Bool.and_assoc] using h3
 unfold VB
 rw [hg, hf]
 simp only [ak_pe h1, ak_pe h2]
 simp
def a7 : St := ⟨(7, aL), (7, aL), 0, 0, []⟩
def aB : St := ⟨(2, aL), (4, aL), 7, 7, []⟩
end Wk
end Go.Proofs.YtlbjfbpejomkmaaGreat
namespace Go.Proofs.YtlbjfbpejomkmaaGreat
namespace Wk

end Wk
end Go.Proofs.YtlbjfbpejomkmaaGreat
namespace Go.Proofs.YtlbjfbpejomkmaaGreat
namespace Wk

end Wk
end Go.Proofs.YtlbjfbpejomkmaaGreat
namespace Go.Proofs.YtlbjfbpejomkmaaGreat
namespace Wk

end Wk
end Go.Proofs.YtlbjfbpejomkmaaGreat
namespace Go.Proofs.YtlbjfbpejomkmaaGreat
namespace Wk

end Wk
end Go.Proofs.YtlbjfbpejomkmaaGreat
namespace Go.Proofs.YtlbjfbpejomkmaaGreat
namespace Wk
theorem form_pure {p : Per} (h : pvB p.1 p.2 = true) : formF (pureF p) = (pureF p, 0) := by
 have he : earlyB (pureF p) = true := by
  unfold earlyB pureF
  simp only [ak_pe h]
  rfl
 exact form_early (ak_pair h) he
theorem VB_pure {p : Per} (h : pvB p.1 p.2 = true) : VB (pureF p) = true := ak_VB h h rfl (form_pure h)
end Wk
end Go.Proofs.YtlbjfbpejomkmaaGreat
namespace Go.Proofs.YtlbjfbpejomkmaaGreat
namespace Wk
end Wk
end Go.Proofs.YtlbjfbpejomkmaaGreat
