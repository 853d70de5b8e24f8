import Derived.Test.YtkfonfheakpcbaaGreatWkLst
import Derived.Test.YtkfonfheakpcbaaGreatWkPl
/- timeset: common, copyOf, pure, pair. -/
namespace Go.Proofs.YtkfonfheakpcbaaGreat
open Go.RowKit Wk

theorem gcd_step {a b : Int} (ha : 0 ≤ a) (hb : 0 < b) : Int.gcd b (a % b) = Int.gcd a b := by
  obtain ⟨a, rfl⟩ := Int.eq_ofNat_of_zero_le ha
  obtain ⟨b, rfl⟩ := Int.eq_ofNat_of_zero_le (Int.le_of_lt hb)
  have e : ((a : Int) % (b : Int)) = ((a % b : Nat) : Int) := by simp
  rw [e]
  show Nat.gcd b (a % b) = Nat.gcd a b
  rw [Nat.gcd_comm a b, Nat.gcd_comm b (a % b), ← Nat.gcd_rec]

set_option maxHeartbeats 1000000 in
theorem common_any (m n : Int) (w : World) (hm : 1 ≤ m) (hm2 : m ≤ 12622780800) (hn : 1 ≤ n) (hn2 : n ≤ 12622780800) :
    Calls Tryz.prog 105 #[.int .i64 m, .int .i64 n] w fun e w' => e = .returned (.int .i64 (commonM m n)) ∧ Below w.heap.size w w' := by
  go_enter Tryz.func105, Tryz.ntmps105
  go_wp2_with fail
  go_loopw [5, 6] (fun u v wr => ∃ a b : Int, u = .int .i64 a ∧ v = .int .i64 b ∧ 1 ≤ a ∧ a ≤ 12622780800 ∧ 0 ≤ b ∧ b ≤ 12622780800 ∧ Hid (Int.gcd a b = Int.gcd m n) ∧ Below w.heap.size w wr) (fun _ v _ => (intOf v).toNat)
  case atStart => exact ⟨m, n, rfl, rfl, hm, hm2, by omega, hn2, rfl, Below.refl _ _⟩
  case round =>
    obtain ⟨a, b, rfl, rfl, ha1, ha2, hb1, hb2, HG, hB⟩ := hrel
    by_cases hb0 : b = 0
    · subst hb0
      have hg : (a : Int) = (Int.gcd m n : Int) := by
        have := HG.out
        rw [Int.gcd_zero_right] at this
        omega
      have e1 : Int.tdiv m a = m / (Int.gcd m n : Int) := by rw [← hg]; exact Int.tdiv_eq_ediv_of_nonneg (by omega)
      have e2 : Int.tdiv 12622780800 n = 12622780800 / n := Int.tdiv_eq_ediv_of_nonneg (by omega)
      have hbd := commonM_bd hm hn
      have ha0 : (a == 0) = false := by simp; omega
      have hn0 : (n == 0) = false := by simp; omega
      obtain ⟨q, hq⟩ : ∃ q, m / (Int.gcd m n : Int) = q := ⟨_, rfl⟩
      obtain ⟨r, hr⟩ : ∃ r, 12622780800 / n = r := ⟨_, rfl⟩
      have hq0 : 0 ≤ q := by rw [← hq]; exact Int.ediv_nonneg (by omega) (by omega)
      have hqm : q ≤ m := by rw [← hq]; exact Int.ediv_le_self _ (by omega)
      have hr0 : 0 ≤ r := by rw [← hr]; exact Int.ediv_nonneg (by omega) (by omega)
      have hrm : r ≤ 12622780800 := by rw [← hr]; exact Int.ediv_le_self _ (by omega)
      rw [hq] at e1
      rw [hr] at e2
      have HC : Hid (commonM m n = if r < q then 12622780801 else q * n) := by unfold Hid commonM; rw [hq, hr]
      rw [HC.out] at hbd
      clear hq hr hg
      by_cases hlt : r < q
      · rw [if_pos hlt] at hbd
        have g1 : decide (r < q) = true := by simpa using hlt
        go_wp2_with fail
        refine wp_region_ext (by kernel_rfl) (by kernel_rfl) ?_
        repeat (go_big_quiet_step (fail))
        refine wpQuiet_nil ?_
        intro w1 hb1
        go_wp2
        go_ret
        exact ⟨ret_int (by rw [HC.out, if_pos (by omega)]), keepBelow hB hb1⟩
      · rw [if_neg hlt] at hbd
        have g1 : decide (r < q) = false := by simpa using hlt
        go_wp2_with fail
        refine wp_region_ext (by kernel_rfl) (by kernel_rfl) ?_
        repeat (go_big_quiet_step (fail))
        refine wpQuiet_nil ?_
        intro w1 hb1
        go_wp2
        go_ret
        exact ⟨ret_int (by rw [HC.out, if_neg (by omega)]), keepBelow hB hb1⟩
    · have hbp : 0 < b := by omega
      have hz : (b == 0) = false := by simp; omega
      have e1 : Int.tmod a b = a % b := Int.tmod_eq_emod_of_nonneg (by omega)
      have h1 := Int.emod_nonneg a (b := b) (by omega)
      have h2 := Int.emod_lt_of_pos a hbp
      have HG2 : Hid (Int.gcd b (a % b) = Int.gcd m n) := by unfold Hid; rw [← HG.out]; exact gcd_step (by omega) hbp
      obtain ⟨c, hc⟩ : ∃ c, a % b = c := ⟨_, rfl⟩
      rw [hc] at e1 h1 h2 HG2
      clear hc
      go_wp2_with fail
      refine wp_region_ext (by kernel_rfl) (by kernel_rfl) ?_
      repeat (go_big_quiet_step (fail))
      refine wpQuiet_nil ?_
      intro w1 hb1
      go_wp2
      go_roundw
      case rel => exact ⟨b, c, rfl, rfl, by omega, hb2, h1, by omega, HG2, keepBelow hB hb1⟩
      case measure => simp [intOf]; omega
end Go.Proofs.YtkfonfheakpcbaaGreat
