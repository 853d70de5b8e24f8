import Derived.Test.YtkfonfheakpcbaaGreatWkBase
/- floor division: what the functions compute. -/
namespace Go.Proofs.YtkfonfheakpcbaaGreat
open Go.RowKit Wk

theorem tdiv_neg {a b : Int} (ha : a < 0) (hb : 1 ≤ b) : (a.tmod b = 0 ∧ a.tdiv b = a / b ∧ a % b = 0) ∨ (a.tmod b < 0 ∧ a.tdiv b - 1 = a / b ∧ a.tmod b + b = a % b) := by
  have h1 := Int.mul_tdiv_add_tmod a b
  have h2 := Int.lt_tmod_of_pos a (b := b) (by omega)
  have h3 : a.tmod b ≤ 0 := by
    have e := Int.neg_tmod (-a) b
    rw [Int.neg_neg] at e
    have := Int.tmod_nonneg b (a := -a) (by omega)
    omega
  have hc : b * a.tdiv b = a.tdiv b * b := Int.mul_comm _ _
  have hm := Int.mul_ediv_add_emod a b
  have hc' : b * (a / b) = a / b * b := Int.mul_comm _ _
  by_cases h0 : a.tmod b = 0
  · have e : a / b = a.tdiv b := div_uniq hb (by omega) (by omega)
    rw [e] at hm hc'
    exact Or.inl ⟨h0, e.symm, by omega⟩
  · have hk : (a.tdiv b - 1) * b = a.tdiv b * b - b := by rw [Int.sub_mul]; omega
    have e : a / b = a.tdiv b - 1 := div_uniq hb (by omega) (by omega)
    rw [e] at hm hc'
    exact Or.inr ⟨by omega, e.symm, by omega⟩

set_option maxHeartbeats 400000 in
theorem tfloor_any (a b : Int) (w : World) (hb : 1 ≤ b) (hb2 : b ≤ 1152921504606846976) (ha1 : -1152921504606846976 ≤ a) (ha2 : a ≤ 1152921504606846976) :
    Calls Tryz.prog 173 #[.int .i64 a, .int .i64 b] w fun e w' => e = .returned (.int .i64 (a / b)) ∧ w = w' := by
  by_cases h : 0 ≤ a
  · have hm := Int.emod_nonneg a (b := b) (by omega)
    go_enter Tryz.func173, Tryz.ntmps173
    go_wp2
    go_ret
    exact ⟨rfl, rfl⟩
  · have hd := tdiv_neg (a := a) (b := b) (by omega) hb
    have hq := Int.natAbs_tdiv_le_natAbs a b
    have HD := Lib.hid hd
    rcases hd with ⟨h1, h2, _⟩ | ⟨h1, h2, _⟩
    · have h1' : decide (a.tmod b < 0) = false := by simp; omega
      clear h1 h2
      go_enter Tryz.func173, Tryz.ntmps173
      go_wp2
      go_ret
      exact ⟨ret_int (by rcases HD.out with ⟨_, h, _⟩ | ⟨h, _⟩ <;> simp at h1' <;> omega), rfl⟩
    · have h1' : decide (a.tmod b < 0) = true := by simp; omega
      clear h2
      go_enter Tryz.func173, Tryz.ntmps173
      go_wp2
      go_ret
      exact ⟨ret_int (by rcases HD.out with ⟨h, _, _⟩ | ⟨_, h, _⟩ <;> omega), rfl⟩
set_option maxHeartbeats 400000 in
theorem wfloor_any (a b : Int) (w : World) (hb : 1 ≤ b) (hb2 : b ≤ 1152921504606846976) (ha1 : -1152921504606846976 ≤ a) (ha2 : a ≤ 1152921504606846976) :
    Calls Tryz.prog 40 #[.int .i64 a, .int .i64 b] w fun e w' => e = .returned (.int .i64 (a / b)) ∧ w = w' := by
  by_cases h : 0 ≤ a
  · have hm := Int.emod_nonneg a (b := b) (by omega)
    go_enter Tryz.func40, Tryz.ntmps40
    go_wp2
    go_ret
    exact ⟨rfl, rfl⟩
  · have hd := tdiv_neg (a := a) (b := b) (by omega) hb
    have hq := Int.natAbs_tdiv_le_natAbs a b
    have HD := Lib.hid hd
    rcases hd with ⟨h1, h2, _⟩ | ⟨h1, h2, _⟩
    · have h1' : decide (a.tmod b < 0) = false := by simp; omega
      clear h1 h2
      go_enter Tryz.func40, Tryz.ntmps40
      go_wp2
      go_ret
      exact ⟨ret_int (by rcases HD.out with ⟨_, h, _⟩ | ⟨h, _⟩ <;> simp at h1' <;> omega), rfl⟩
    · have h1' : decide (a.tmod b < 0) = true := by simp; omega
      clear h2
      go_enter Tryz.func40, Tryz.ntmps40
      go_wp2
      go_ret
      exact ⟨ret_int (by rcases HD.out with ⟨h, _, _⟩ | ⟨_, h, _⟩ <;> omega), rfl⟩
set_option maxHeartbeats 400000 in
theorem idiv_any (a b : Int) (w : World) (hb : 1 ≤ b) (hb2 : b ≤ 1152921504606846976) (ha1 : -1152921504606846976 ≤ a) (ha2 : a ≤ 1152921504606846976) :
    Calls Tryz.prog 190 #[.int .i64 a, .int .i64 b] w fun e w' => e = .returned (.tuple #[.int .i64 (a / b), .int .i64 (a - a / b * b), .int .i64 0]) ∧ Below w.heap.size w w' := by
  have g1 : ((b == 0) : Bool) = false := by simp; omega
  have g2 : ((a == -9223372036854775808) : Bool) = false := by simp; omega
  have hc : b * (a / b) = a / b * b := Int.mul_comm _ _
  have hmm := Int.mul_ediv_add_emod a b
  have HE : Hid (a - a / b * b = a % b) := by unfold Hid; omega
  clear hc hmm
  rw [HE.out]
  by_cases h : 0 ≤ a
  · have hm := Int.emod_nonneg a (b := b) (by omega)
    have hd := Int.ediv_nonneg h (b := b) (by omega)
    by_cases hz : a % b = 0
    · have HZ := Lib.hid hz
      have hz' : ((a % b) == 0) = true := by simp [hz]
      have hz'' : ((a % b) != 0) = false := by simp [hz]
      clear hz
      go_enter Tryz.func190, Tryz.ntmps190
      go_wp2_with fail
      refine wp_region_ext (by kernel_rfl) (by kernel_rfl) ?_
      repeat (go_big_quiet_step (fail))
      refine wpQuiet_nil ?_
      intro w1 hb1
      go_wp2
      go_ret3
      exact ⟨rfl, hb1⟩
    · have HZ := Lib.hid hz
      have hz' : ((a % b) == 0) = false := by simp [hz]
      have hz'' : ((a % b) != 0) = true := by simp [hz]
      have hn1 : decide (a % b < 0) = false := by simp; omega
      have hn2 : decide (b < 0) = false := by simp; omega
      clear hz
      go_enter Tryz.func190, Tryz.ntmps190
      go_wp2_with fail
      refine wp_region_ext (by kernel_rfl) (by kernel_rfl) ?_
      repeat (go_big_quiet_step (fail))
      refine wpQuiet_nil ?_
      intro w1 hb1
      go_wp2
      go_ret3
      exact ⟨rfl, hb1⟩
  · have hd := tdiv_neg (a := a) (b := b) (by omega) hb
    have hq := Int.natAbs_tdiv_le_natAbs a b
    have HD := Lib.hid hd
    rcases hd with ⟨h1, h2, h3⟩ | ⟨h1, h2, h3⟩
    · have hz' : ((a.tmod b) == 0) = true := by simp [h1]
      have hz'' : ((a.tmod b) != 0) = false := by simp [h1]
      have H1 := Lib.hid h1
      have H2 := Lib.hid h2
      have H3 := Lib.hid h3
      clear h1 h2 h3
      go_enter Tryz.func190, Tryz.ntmps190
      go_wp2_with fail
      refine wp_region_ext (by kernel_rfl) (by kernel_rfl) ?_
      repeat (go_big_quiet_step (fail))
      refine wpQuiet_nil ?_
      intro w1 hb1
      go_wp2
      go_ret3
      exact ⟨ret3_int (by first | exact H2.out | rfl) (by first | exact H3.out.symm | exact H1.out.trans H3.out.symm), hb1⟩
    · have hz' : ((a.tmod b) == 0) = false := by simp; omega
      have hz'' : ((a.tmod b) != 0) = true := by simp; omega
      have hr := Int.lt_tmod_of_pos a (b := b) (by omega)
      have hn1 : decide (a.tmod b < 0) = true := by simp; omega
      have hn2 : decide (b < 0) = false := by simp; omega
      have H2 := Lib.hid h2
      have H3 := Lib.hid h3
      clear h2 h3
      go_enter Tryz.func190, Tryz.ntmps190
      go_wp2_with fail
      refine wp_region_ext (by kernel_rfl) (by kernel_rfl) ?_
      repeat (go_big_quiet_step (fail))
      refine wpQuiet_nil ?_
      intro w1 hb1
      go_wp2
      go_ret3
      exact ⟨ret3_int H2.out H3.out, hb1⟩

set_option maxHeartbeats 400000 in
theorem imod_any (a b : Int) (w : World) (hb : 1 ≤ b) (hb2 : b ≤ 1152921504606846976) (ha1 : -1152921504606846976 ≤ a) (ha2 : a ≤ 1152921504606846976) :
    Calls Tryz.prog 187 #[.int .i64 a, .int .i64 b] w fun e w' => e = .returned (.int .i64 (a - a / b * b)) ∧ Below w.heap.size w w' := by
  go_enter Tryz.func187, Tryz.ntmps187
  go_wp2_with (go_at_call 190; refine (idiv_any _ _ _ hb hb2 ha1 ha2).mono ?_; rintro e w1 ⟨rfl, hb1⟩)
  go_ret
  exact ⟨rfl, hb1⟩

end Go.Proofs.YtkfonfheakpcbaaGreat
