import Derived.Test.YtnjpceocnldlfaaGreatWkBa
import Derived.Test.YtnjpceocnldlfaaGreatWkPq
import Derived.Test.YtnjpceocnldlfaaGreatWkShelfM
import Derived.Test.YtnjpceocnldlfaaGreatWkBd
/- integer: size, signed, Mul, Gcd, Lcm. -/
namespace Go.Proofs.YtnjpceocnldlfaaGreat
open Go.RowKit Wk

set_option maxHeartbeats 400000 in
theorem isize_any (a : Int) (w : World) (h0 : 0 ≤ a) (h1 : a ≤ 9223372036854775807) :
    Calls Tryz.prog 198 #[.int .i64 a] w fun e w' => e = .returned (.int .u64 a) ∧ w = w' := by
  have t1 : decide (a < 0) = false := by simp; omega
  have s1 : IntKind.u64.wrap a = a := by rw [IntKind.wrap_u64]; omega
  go_enter Tryz.func198, Tryz.ntmps198
  go_wp2
  go_ret
  exact ⟨rfl, rfl⟩

def sgdM (m : Int) : Int × Bool := if m ≤ 9223372036854775807 then (m, true) else (0, false)
set_option maxHeartbeats 400000 in
theorem isigned_any (m : Int) (w : World) (h0 : 0 ≤ m) (h1 : m < 18446744073709551616) :
    Calls Tryz.prog 199 #[.int .u64 m, .bool false] w fun e w' => e = .returned (.tuple #[.int .i64 (sgdM m).1, .bool (sgdM m).2]) ∧ w = w' := by
  by_cases h : m ≤ 9223372036854775807
  · have HS : Hid (sgdM m = (m, true)) := by unfold Hid sgdM; rw [if_pos h]
    have s1 : IntKind.i64.wrap m = m := by rw [IntKind.wrap_i64]; omega
    rw [HS.out]
    go_enter Tryz.func199, Tryz.ntmps199
    go_wp2
    go_ret2
    exact ⟨rfl, rfl⟩
  · have HS : Hid (sgdM m = (0, false)) := by unfold Hid sgdM; rw [if_neg h]
    rw [HS.out]
    go_enter Tryz.func199, Tryz.ntmps199
    go_wp2
    go_ret2
    exact ⟨rfl, rfl⟩

theorem mul64_any (a b : Int) (w : World) (ha : 0 ≤ a) (ha2 : a ≤ 9223372036854775807) (hb : 0 ≤ b) (hb2 : b ≤ 9223372036854775807) :
    Calls Tryz.prog 197 #[.int .u64 a, .int .u64 b] w fun e w' => e = .returned (.tuple #[.int .u64 (a * b / 18446744073709551616), .int .u64 (a * b % 18446744073709551616)]) ∧ w = w' := by
  obtain ⟨x, rfl⟩ : ∃ x : Nat, (x : Int) = a := ⟨a.toNat, by omega⟩
  obtain ⟨y, rfl⟩ : ∃ y : Nat, (y : Int) = b := ⟨b.toNat, by omega⟩
  refine (Tryz.bits_Mul64 x y (by omega) (by omega) w).mono ?_
  rintro e w' ⟨rfl, rfl⟩
  refine ⟨?_, rfl⟩
  simp only [Int.natCast_ediv, Int.natCast_emod, Int.natCast_mul]
  rfl

def imulM (p : Int) : Int × Int := if p ≤ 9223372036854775807 then (p, 0) else (0, 9)
set_option maxRecDepth 100000 in
set_option maxHeartbeats 1000000 in
theorem imul_any (a b : Int) (w : World) (ha : 1 ≤ a) (ha2 : a ≤ 12622780800) (hb : 1 ≤ b) (hb2 : b ≤ 12622780800) :
    Calls Tryz.prog 180 #[.int .i64 a, .int .i64 b] w fun e w' => e = .returned (.tuple #[.int .i64 (imulM (a * b)).1, .int .i64 (imulM (a * b)).2]) ∧ w = w' := by
  have h1 := isize_any a w (by omega) (by omega)
  have h2 := isize_any b w (by omega) (by omega)
  have h3 := mul64_any a b w (by omega) (by omega) (by omega) (by omega)
  have hp : 1 ≤ a * b := by have := Int.mul_le_mul ha hb (by omega) (by omega); omega
  have hp2 : a * b ≤ 12622780800 * 12622780800 := Int.mul_le_mul ha2 hb2 (by omega) (by omega)
  obtain ⟨p, hpe⟩ : ∃ p, a * b = p := ⟨_, rfl⟩
  rw [hpe] at h3 hp hp2 ⊢
  clear hpe
  obtain ⟨hi, hhi⟩ : ∃ hi, p / 18446744073709551616 = hi := ⟨_, rfl⟩
  obtain ⟨lo, hlo⟩ : ∃ lo, p % 18446744073709551616 = lo := ⟨_, rfl⟩
  rw [hhi, hlo] at h3
  have h4 := isigned_any lo w (by omega) (by omega)
  have t1 : decide (a < 0) = false := by simp; omega
  have t2 : decide (b < 0) = false := by simp; omega
  have H1 := Lib.hid h1
  have H2 := Lib.hid h2
  have H3 := Lib.hid h3
  by_cases hs : p ≤ 9223372036854775807
  · have e1 : hi = 0 := by omega
    have e2 : sgdM lo = (lo, true) := by unfold sgdM; rw [if_pos (by omega)]
    have e3 : imulM p = (lo, 0) := by unfold imulM; rw [if_pos hs, show p = lo by omega]
    rw [e2] at h4
    have H4 := Lib.hid h4
    subst e1
    rw [e3]
    clear h1 h2 h3 h4 e2 e3 hhi hlo hs hp hp2
    go_enter Tryz.func180, Tryz.ntmps180
    go_wp2_with fail
    refine H1.out.mono ?_
    rintro e w1 ⟨rfl, hw1⟩
    subst hw1
    go_wp2_with fail
    refine H2.out.mono ?_
    rintro e w1 ⟨rfl, hw1⟩
    subst hw1
    go_wp2_with fail
    refine H3.out.mono ?_
    rintro e w1 ⟨rfl, hw1⟩
    subst hw1
    go_wp2_with fail
    refine H4.out.mono ?_
    rintro e w1 ⟨rfl, hw1⟩
    subst hw1
    go_wp2
    go_ret2
    exact ⟨rfl, rfl⟩
  · have e3 : imulM p = (0, 9) := by unfold imulM; rw [if_neg hs]
    rw [e3]
    by_cases e1 : hi = 0
    · have e2 : sgdM lo = (0, false) := by unfold sgdM; rw [if_neg (by omega)]
      rw [e2] at h4
      have H4 := Lib.hid h4
      subst e1
      clear h1 h2 h3 h4 e2 e3 hhi hlo hs hp hp2
      go_enter Tryz.func180, Tryz.ntmps180
      go_wp2_with fail
      refine H1.out.mono ?_
      rintro e w1 ⟨rfl, hw1⟩
      subst hw1
      go_wp2_with fail
      refine H2.out.mono ?_
      rintro e w1 ⟨rfl, hw1⟩
      subst hw1
      go_wp2_with fail
      refine H3.out.mono ?_
      rintro e w1 ⟨rfl, hw1⟩
      subst hw1
      go_wp2_with fail
      refine H4.out.mono ?_
      rintro e w1 ⟨rfl, hw1⟩
      subst hw1
      go_wp2
      go_ret2
      exact ⟨rfl, rfl⟩
    · have t3 : (hi != 0) = true := by simpa using e1
      obtain ⟨⟨r, k⟩, hrk⟩ : ∃ q, sgdM lo = q := ⟨_, rfl⟩
      rw [hrk] at h4
      have H4 := Lib.hid h4
      clear h1 h2 h3 h4 e1 e3 hhi hlo hs hp hp2 hrk
      go_enter Tryz.func180, Tryz.ntmps180
      go_wp2_with fail
      refine H1.out.mono ?_
      rintro e w1 ⟨rfl, hw1⟩
      subst hw1
      go_wp2_with fail
      refine H2.out.mono ?_
      rintro e w1 ⟨rfl, hw1⟩
      subst hw1
      go_wp2_with fail
      refine H3.out.mono ?_
      rintro e w1 ⟨rfl, hw1⟩
      subst hw1
      go_wp2_with fail
      refine H4.out.mono ?_
      rintro e w1 ⟨rfl, hw1⟩
      subst hw1
      go_wp2
      go_ret2
      exact ⟨rfl, rfl⟩

set_option maxHeartbeats 1000000 in
theorem igcd_any (m n : Int) (w : World) (hm : 1 ≤ m) (hm2 : m ≤ 12622780800) (hn : 1 ≤ n) (hn2 : n ≤ 12622780800) :
    Calls Tryz.prog 181 #[.int .i64 m, .int .i64 n] w fun e w' => e = .returned (.int .i64 (Int.gcd m n : Int)) ∧ Below w.heap.size w w' := by
  have H1 := Lib.hid (isize_any m w (by omega) (by omega))
  have H2 := Lib.hid (isize_any n w (by omega) (by omega))
  go_enter Tryz.func181, Tryz.ntmps181
  go_wp2_with fail
  refine H1.out.mono ?_
  rintro e w1 ⟨rfl, hw1⟩
  subst hw1
  go_wp2_with fail
  refine H2.out.mono ?_
  rintro e w1 ⟨rfl, hw1⟩
  subst hw1
  go_wp2_with fail
  go_loopw [5, 6] (fun u v wr => ∃ a b : Int, u = .int .u64 a ∧ v = .int .u64 b ∧ 1 ≤ a ∧ a ≤ 12622780800 ∧ 0 ≤ b ∧ b ≤ 12622780800 ∧ Hid (Int.gcd a b = Int.gcd m n) ∧ Below w.heap.size w wr) (fun _ v _ => (intOf v).toNat)
  case atStart => exact ⟨m, n, rfl, rfl, hm, hm2, by omega, hn2, rfl, Below.refl _ _⟩
  case round =>
    obtain ⟨a, b, rfl, rfl, ha1, ha2, hb1, hb2, HG, hB⟩ := hrel
    by_cases hb0 : b = 0
    · subst hb0
      have hg : Hid (a = (Int.gcd m n : Int)) := by
        have := HG.out
        rw [Int.gcd_zero_right] at this
        unfold Hid
        omega
      have H4 : Hid (∀ W, Calls Tryz.prog 199 #[.int .u64 a, .bool false] W fun e w' => e = .returned (.tuple #[.int .i64 a, .bool true]) ∧ W = w') := by
        intro W
        have := isigned_any a W (by omega) (by omega)
        rwa [show sgdM a = (a, true) by unfold sgdM; rw [if_pos (by omega)]] at this
      go_wp2_with fail
      refine (H4.out _).mono ?_
      rintro e w1 ⟨rfl, hw1⟩
      subst hw1
      go_wp2
      go_ret
      exact ⟨ret_int hg.out, hB⟩
    · have hbp : 0 < b := by omega
      have hz : (b == 0) = false := by simp; omega
      have hz2 : (b != 0) = true := by simp; omega
      have hz3 : (b == -1) = false := by simp; omega
      have e1 : Int.tmod a b = a % b := Int.tmod_eq_emod_of_nonneg (by omega)
      have h1 := Int.emod_nonneg a (b := b) (by omega)
      have h2 := Int.emod_lt_of_pos a hbp
      have HG2 : Hid (Int.gcd b (a % b) = Int.gcd m n) := by unfold Hid; rw [← HG.out]; exact gcd_step (by omega) hbp
      obtain ⟨c, hc⟩ : ∃ c, a % b = c := ⟨_, rfl⟩
      rw [hc] at e1 h1 h2 HG2
      have s1 : IntKind.u64.wrap c = c := by rw [IntKind.wrap_u64]; omega
      go_wp2_with fail
      refine wp_region_ext (by kernel_rfl) (by kernel_rfl) ?_
      iterate 6 (go_big_quiet_step (fail))
      refine wpQuiet_nil ?_
      intro w1 hb1'
      have hBn := keepBelow hB hb1'
      go_wp2
      go_roundw
      case rel => exact ⟨b, c, rfl, rfl, by omega, hb2, h1, by omega, HG2, hBn⟩
      case measure => simp [intOf]; omega

theorem mulM_comm {P Q : Int} : P * (Q / (Int.gcd P Q : Int)) = mulM P Q := by
  have hd : (Int.gcd P Q : Int) ∣ Q := Int.gcd_dvd_right ..
  have hd2 : (Int.gcd P Q : Int) ∣ P := Int.gcd_dvd_left ..
  unfold mulM
  rw [← Int.mul_ediv_assoc _ hd, Int.mul_comm (P / _) Q, ← Int.mul_ediv_assoc _ hd2, Int.mul_comm Q P]

set_option maxHeartbeats 1000000 in
theorem ilcm_any (P Q : Int) (w : World) (hP : 1 ≤ P) (hP2 : P ≤ 12622780800) (hQ : 1 ≤ Q) (hQ2 : Q ≤ 12622780800) :
    Calls Tryz.prog 163 #[.int .i64 P, .int .i64 Q] w fun e w' => e = .returned (.tuple #[.int .i64 (imulM (mulM P Q)).1, .int .i64 (imulM (mulM P Q)).2]) ∧ Below w.heap.size w w' := by
  have HG := Lib.hid (fun W => igcd_any P Q W hP hP2 hQ hQ2)
  have hg : 0 < Int.gcd P Q := Int.gcd_pos_of_ne_zero_left _ (by omega)
  have hle := Int.le_of_dvd (by omega) (Int.gcd_dvd_right (a := P) (b := Q))
  have b1 : 1 ≤ Q / (Int.gcd P Q : Int) := Int.le_ediv_of_mul_le (by omega) (by omega)
  have b2 : Q / (Int.gcd P Q : Int) ≤ Q := Int.ediv_le_self _ (by omega)
  have HMU : Hid (P * (Q / (Int.gcd P Q : Int)) = mulM P Q) := mulM_comm
  obtain ⟨M, hM⟩ : ∃ M, mulM P Q = M := ⟨_, rfl⟩
  rw [hM] at HMU ⊢
  have e1 : Int.tdiv Q (Int.gcd P Q : Int) = Q / (Int.gcd P Q : Int) := Int.tdiv_eq_ediv_of_nonneg (by omega)
  obtain ⟨g, hgg⟩ : ∃ g, (Int.gcd P Q : Int) = g := ⟨_, rfl⟩
  rw [hgg] at HG HMU b1 b2 e1 hle
  have hg1 : 1 ≤ g := by omega
  obtain ⟨q, hq⟩ : ∃ q, Q / g = q := ⟨_, rfl⟩
  rw [hq] at HMU b1 b2 e1
  have HMUL := Lib.hid (fun W => imul_any P q W hP hP2 b1 (by omega))
  rw [HMU.out] at HMUL
  have t1 : decide (P < 1) = false := by simp; omega
  have t2 : decide (Q < 1) = false := by simp; omega
  have s1 : IntKind.i64.wrap q = q := by rw [IntKind.wrap_i64]; omega
  clear hM hgg hg
  obtain ⟨⟨r1, r2⟩, hr1⟩ : ∃ r1, imulM M = r1 := ⟨_, rfl⟩
  rw [hr1] at HMUL ⊢
  clear hr1
  go_enter Tryz.func163, Tryz.ntmps163
  go_wp2_with fail
  refine (HG.out _).mono ?_
  rintro e w1 ⟨rfl, hb1⟩
  go_wp2_with fail
  refine (HMUL.out _).mono ?_
  rintro e w2 ⟨rfl, hw2⟩
  subst hw2
  go_wp2
  go_ret2
  exact ⟨rfl, hb1⟩
end Go.Proofs.YtnjpceocnldlfaaGreat
