import Derived.Test.YtlbjfbpejomkmaaGreatWkPn
/- Going through two canonical lists at the same time, plain. -/
namespace Go.Proofs.YtlbjfbpejomkmaaGreat
namespace Wk

end Wk
end Go.Proofs.YtlbjfbpejomkmaaGreat
namespace Go.Proofs.YtlbjfbpejomkmaaGreat
namespace Wk

end Wk
end Go.Proofs.YtlbjfbpejomkmaaGreat
namespace Go.Proofs.YtlbjfbpejomkmaaGreat
namespace Wk

end Wk
end Go.Proofs.YtlbjfbpejomkmaaGreat
namespace Go.Proofs.YtlbjfbpejomkmaaGreat
namespace Wk

def mulM (P Q : Int) : Int := P / (Int.gcd P Q : Int) * Q
theorem mulM_bd {P Q : Int} (hP : 1 ≤ P) (hQ : 1 ≤ Q) : 1 ≤ P / (Int.gcd P Q : Int) ∧ P / (Int.gcd P Q : Int) ≤ P ∧ 1 ≤ mulM P Q := by
 have hg : 0 < Int.gcd P Q := Int.gcd_pos_of_ne_zero_left _ (by omega)
 have hle := Int.le_of_dvd (by omega) (Int.gcd_dvd_left (a := P) (b := Q))
 have h1 : 1 ≤ P / (Int.gcd P Q : Int) := Int.le_ediv_of_mul_le (by omega) (by omega)
 refine ⟨h1, Int.ediv_le_self _ (by omega), ?_⟩
 unfold mulM
 have := Int.mul_le_mul h1 hQ (by omega) (by omega)
 omega
theorem mulM_left {P Q : Int} : ∃ c : Int, mulM P Q = c * P := by
 have hd : (Int.gcd P Q : Int) ∣ Q := Int.gcd_dvd_right ..
 have hd2 : (Int.gcd P Q : Int) ∣ P := Int.gcd_dvd_left ..
 obtain ⟨k, hk⟩ := hd
 refine ⟨k, ?_⟩
 unfold mulM
 have h1 := Int.ediv_mul_cancel hd2
 calc P / (Int.gcd P Q : Int) * Q = P / (Int.gcd P Q : Int) * ((Int.gcd P Q : Int) * k) := by rw [← hk]
  _ = P / (Int.gcd P Q : Int) * (Int.gcd P Q : Int) * k := by rw [Int.mul_assoc]
  _ = k * P := by rw [h1, Int.mul_comm]
theorem mulM_right {P Q : Int} : ∃ c : Int, mulM P Q = c * Q := ⟨_, rfl⟩
theorem common_mulM {P Q : Int} (hQ : 1 ≤ Q) : (12622780800 < commonM P Q ↔ 12622780800 < mulM P Q) ∧ (¬ 12622780800 < mulM P Q → commonM P Q = mulM P Q) := by
 have e : 12622780800 / Q < P / (Int.gcd P Q : Int) ↔ 12622780800 < mulM P Q := by
  unfold mulM
  rw [Int.ediv_lt_iff_lt_mul (by omega)]
 unfold commonM
 by_cases h : 12622780800 / Q < P / (Int.gcd P Q : Int)
 ·rw [if_pos h]
  exact ⟨⟨fun _ => e.1 h, fun _ => by omega⟩, fun hn => absurd (e.1 h) hn⟩
 ·rw [if_neg h]
  exact ⟨Iff.rfl, fun _ => rfl⟩
def pairR (P : Int) (la : Nat) (Q : Int) (lb : Nat) : Int × Int :=
 if 12622780800 < mulM P Q then (0, 9) else if 2000 < mulM P Q / P * la + mulM P Q / Q * lb then (0, 5) else (mulM P Q, 0)
end Wk
end Go.Proofs.YtlbjfbpejomkmaaGreat
namespace Go.Proofs.YtlbjfbpejomkmaaGreat
namespace Wk

end Wk
end Go.Proofs.YtlbjfbpejomkmaaGreat
namespace Go.Proofs.YtlbjfbpejomkmaaGreat
namespace Wk

end Wk
end Go.Proofs.YtlbjfbpejomkmaaGreat
