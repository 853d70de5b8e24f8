import Derived.Test.YtnjpceocnldlfaaGreatWkRfX
import Derived.Test.YtnjpceocnldlfaaGreatWkBd
import Derived.Test.YtnjpceocnldlfaaGreatWkPq
/- The reference: Gcd, Mul, Lcm, Pair. -/
namespace Go.Proofs.YtnjpceocnldlfaaGreat
open Go.RowKit Wk

set_option maxHeartbeats 1000000 in
theorem gcd01_any (m n : Int) (w : World) (hm : 1 ≤ m) (hm2 : m ≤ 12622780800) (hn : 1 ≤ n) (hn2 : n ≤ 12622780800) :
    Calls Tryz.prog 167 #[.int .i64 m, .int .i64 n] w fun e w' => e = .returned (.int .i64 (Int.gcd m n : Int)) ∧ Below w.heap.size w w' := by
  go_enter Tryz.func167, Tryz.ntmps167
  go_wp2_with fail
  go_loopw [0, 1] (fun u v wr => ∃ a b : Int, u = .int .i64 a ∧ v = .int .i64 b ∧ 1 ≤ a ∧ a ≤ 12622780800 ∧ 0 ≤ b ∧ b ≤ 12622780800 ∧ Hid (Int.gcd a b = Int.gcd m n) ∧ Below w.heap.size w wr) (fun _ v _ => (intOf v).toNat)
  case atStart => exact ⟨m, n, rfl, rfl, hm, hm2, by omega, hn2, rfl, Below.refl _ _⟩
  case round =>
    obtain ⟨a, b, rfl, rfl, ha1, ha2, hb1, hb2, HG, hB⟩ := hrel
    by_cases hb0 : b = 0
    · subst hb0
      have hg : Hid (a = (Int.gcd m n : Int)) := by
        have := HG.out
        rw [Int.gcd_zero_right] at this
        unfold Hid
        omega
      have t1 : (a == -9223372036854775808) = false := by simp; omega
      have t2 : decide (a < 0) = false := by simp; omega
      go_wp2
      go_ret
      exact ⟨ret_int hg.out, hB⟩
    · have hbp : 0 < b := by omega
      have hz : (b == 0) = false := by simp; omega
      have hz2 : (b != 0) = true := by simp; omega
      have hz3 : (b == -1) = false := by simp; omega
      have e1 : Int.tmod a b = a % b := Int.tmod_eq_emod_of_nonneg (by omega)
      have h1 := Int.emod_nonneg a (b := b) (by omega)
      have h2 := Int.emod_lt_of_pos a hbp
      have HG2 : Hid (Int.gcd b (a % b) = Int.gcd m n) := by unfold Hid; rw [← HG.out]; exact gcd_step (by omega) hbp
      obtain ⟨c, hc⟩ : ∃ c, a % b = c := ⟨_, rfl⟩
      rw [hc] at e1 h1 h2 HG2
      go_wp2_with fail
      refine wp_region_ext (by kernel_rfl) (by kernel_rfl) ?_
      iterate 6 (go_big_quiet_step (fail))
      refine wpQuiet_nil ?_
      intro w1 hb1'
      have hBn := keepBelow hB hb1'
      go_wp2
      go_roundw
      case rel => exact ⟨b, c, rfl, rfl, by omega, hb2, h1, by omega, HG2, hBn⟩
      case measure => simp [intOf]; omega

set_option maxHeartbeats 1000000 in
theorem mul01_any (a b : Int) (w : World) (ha : 1 ≤ a) (ha2 : a ≤ 12622780800) (hb : 1 ≤ b) (hb2 : b ≤ 12622780800) :
    Calls Tryz.prog 166 #[.int .i64 a, .int .i64 b] w fun e w' => e = .returned (.tuple #[.int .i64 (if a * b ≤ 9223372036854775807 then a * b else 0), .int .i64 (if a * b ≤ 9223372036854775807 then 0 else 9)]) ∧ Below w.heap.size w w' := by
  have g1 : (a == 0) = false := by simp; omega
  have g2 : (b == 0) = false := by simp; omega
  have g3 : (a == -9223372036854775808) = false := by simp; omega
  have g4 : (b == -9223372036854775808) = false := by simp; omega
  have hab : 1 ≤ a * b := by have := Int.mul_le_mul ha hb (by omega) (by omega); omega
  obtain ⟨p, hp⟩ : ∃ p, IntKind.i64.wrap (a * b) = p := ⟨_, rfl⟩
  have hp1 : -9223372036854775808 ≤ p ∧ p ≤ 9223372036854775807 := by
    rw [IntKind.wrap_i64] at hp
    generalize a * b = x at *
    omega
  have hq := Int.natAbs_tdiv_le_natAbs p b
  by_cases h : a * b ≤ 9223372036854775807
  · rw [if_pos h, if_pos h]
    have hpe : p = a * b := by
      rw [IntKind.wrap_i64] at hp
      generalize a * b = x at *
      omega
    have hdiv : p / b = a := by rw [hpe]; exact Int.mul_ediv_cancel _ (by omega)
    have hp0 : 0 ≤ p := by omega
    have htd : p.tdiv b = a := by rw [Int.tdiv_eq_ediv_of_nonneg hp0]; exact hdiv
    have t1 : ((p / b) != a) = false := by simp [hdiv]
    have t2 : ((p.tdiv b) != a) = false := by simp [htd]
    have HPE := Lib.hid hpe
    rw [← hpe]
    clear h hpe hdiv htd hab
    go_enter Tryz.func166, Tryz.ntmps166
    go_wp2
    all_goals go_ret2
    all_goals exact ⟨rfl, Below.refl _ _⟩
  · rw [if_neg h, if_neg h]
    have H := Lib.hid h
    have hne : ¬ p.tdiv b = a := by
      intro e
      have h1 := Int.mul_tdiv_add_tmod p b
      rw [e] at h1
      by_cases hp0 : 0 ≤ p
      · have h2 := Int.tmod_nonneg b hp0
        rw [Int.mul_comm] at h1
        omega
      · have : p.tdiv b ≤ 0 := by
          have e2 := Int.neg_tdiv (-p) b
          rw [Int.neg_neg] at e2
          have := Int.tdiv_nonneg (a := -p) (b := b) (by omega) (by omega)
          omega
        omega
    have t2 : ((p.tdiv b) != a) = true := by simpa using hne
    have HNE := Lib.hid hne
    by_cases hp0 : 0 ≤ p
    · have htd : p.tdiv b = p / b := Int.tdiv_eq_ediv_of_nonneg hp0
      have t1 : ((p / b) != a) = true := by rw [← htd]; exact t2
      clear h hne hab htd
      go_enter Tryz.func166, Tryz.ntmps166
      go_wp2
      all_goals go_ret2
      all_goals exact ⟨rfl, Below.refl _ _⟩
    · clear h hne hab
      go_enter Tryz.func166, Tryz.ntmps166
      go_wp2
      all_goals go_ret2
      all_goals exact ⟨rfl, Below.refl _ _⟩

set_option maxHeartbeats 1000000 in
theorem lcm01_any (P Q : Int) (w : World) (hP : 1 ≤ P) (hP2 : P ≤ 12622780800) (hQ : 1 ≤ Q) (hQ2 : Q ≤ 12622780800) :
    Calls Tryz.prog 138 #[.int .i64 P, .int .i64 Q] w fun e w' => e = .returned (.tuple #[.int .i64 (if mulM P Q ≤ 9223372036854775807 then mulM P Q else 0), .int .i64 (if mulM P Q ≤ 9223372036854775807 then 0 else 9)]) ∧ Below w.heap.size w w' := by
  have HG := Lib.hid (fun W => gcd01_any P Q W hP hP2 hQ hQ2)
  obtain ⟨b1, b2, b3⟩ := mulM_bd hP hQ
  have hg : 0 < Int.gcd P Q := Int.gcd_pos_of_ne_zero_left _ (by omega)
  have hle := Int.le_of_dvd (by omega) (Int.gcd_dvd_left (a := P) (b := Q))
  have HMU : Hid (mulM P Q = P / (Int.gcd P Q : Int) * Q) := rfl
  obtain ⟨M, hM⟩ : ∃ M, mulM P Q = M := ⟨_, rfl⟩
  rw [hM] at HMU ⊢
  have e1 : Int.tdiv P (Int.gcd P Q : Int) = P / (Int.gcd P Q : Int) := Int.tdiv_eq_ediv_of_nonneg (by omega)
  obtain ⟨g, hgg⟩ : ∃ g, (Int.gcd P Q : Int) = g := ⟨_, rfl⟩
  rw [hgg] at HG HMU b1 b2 e1 hle
  have hg1 : 1 ≤ g := by omega
  obtain ⟨q, hq⟩ : ∃ q, P / g = q := ⟨_, rfl⟩
  rw [hq] at HMU b1 b2 e1
  have HMUL := Lib.hid (fun W => mul01_any q Q W b1 (by omega) hQ hQ2)
  rw [← HMU.out] at HMUL
  have t1 : decide (P < 1) = false := by simp; omega
  have t2 : decide (Q < 1) = false := by simp; omega
  clear hM hgg hg b3
  obtain ⟨r1, hr1⟩ : ∃ r1, (if M ≤ 9223372036854775807 then M else 0) = r1 := ⟨_, rfl⟩
  obtain ⟨r2, hr2⟩ : ∃ r2, (if M ≤ 9223372036854775807 then (0 : Int) else 9) = r2 := ⟨_, rfl⟩
  rw [hr1, hr2]
  simp only [hr1, hr2] at HMUL
  clear hr1 hr2
  go_enter Tryz.func138, Tryz.ntmps138
  go_wp2_with fail
  refine (HG.out _).mono ?_
  rintro e w1 ⟨rfl, hb1⟩
  go_wp2_with fail
  refine (HMUL.out _).mono ?_
  rintro e w2 ⟨rfl, hb2⟩
  have hBn := keepBelow hb1 hb2
  go_wp2
  go_ret2
  exact ⟨rfl, hBn⟩

set_option maxRecDepth 100000 in
set_option maxHeartbeats 2000000 in
theorem pair13_any (P Q : Int) (v k : Value) (l m : List Sp) (w : World) (h1 : RdS w v l) (h2 : RdS w k m) (hP : 1 ≤ P) (hP2 : P ≤ 12622780800) (hQ : 1 ≤ Q) (hQ2 : Q ≤ 12622780800) (hl : l.length ≤ 2000) (hm : m.length ≤ 2000) :
    Calls Tryz.prog 84 #[.agg #[.int .i64 P, v], .agg #[.int .i64 Q, k]] w fun e w' => e = .returned (.tuple #[.int .i64 (pairR P l.length Q m.length).1, .int .i64 (pairR P l.length Q m.length).2]) ∧ Below w.heap.size w w' := by
  have HL := Lib.hid (fun W => lcm01_any P Q W hP hP2 hQ hQ2)
  obtain ⟨a1, d1, rfl, _, _⟩ := h1
  obtain ⟨a2, d2, rfl, _, _⟩ := h2
  obtain ⟨W, hWe⟩ : ∃ W, (w.alloc (.cells #[.int .i64 P, .slice a1 l.length d1] 24)).alloc (.cells #[.int .i64 Q, .slice a2 m.length d2] 24) = W := ⟨_, rfl⟩
  have hW : Below w.heap.size w W := by rw [← hWe]; exact ((Below.refl _ _).alloc (Nat.le_refl _) _).alloc (by simp) _
  have c0 : W.cell? ⟨w.heap.size, 0, none⟩ = some (.int .i64 P) := by rw [← hWe]; simp [go_sem]
  have c1 : W.cell? ⟨w.heap.size, 1, none⟩ = some (.slice a1 l.length d1) := by rw [← hWe]; simp [go_sem]
  have c2 : W.cell? ⟨w.heap.size + 1, 0, none⟩ = some (.int .i64 Q) := by rw [← hWe]; simp [go_sem]
  have c3 : W.cell? ⟨w.heap.size + 1, 1, none⟩ = some (.slice a2 m.length d2) := by rw [← hWe]; simp [go_sem]
  have HE := Lib.hid hWe
  clear hWe
  obtain ⟨_, _, b3⟩ := mulM_bd hP hQ
  have HPR : Hid (pairR P l.length Q m.length = if 12622780800 < mulM P Q then (0, 9) else if 2000 < mulM P Q / P * l.length + mulM P Q / Q * m.length then (0, 5) else (mulM P Q, 0)) := rfl
  obtain ⟨M, hM⟩ : ∃ M, mulM P Q = M := ⟨_, rfl⟩
  rw [hM] at HL HPR b3
  clear hM
  by_cases hbig : M ≤ 9223372036854775807
  · rw [if_pos hbig, if_pos hbig] at HL
    cases t1 : decide (12622780800 < M) with
    | true =>
      rw [if_pos (by simpa using t1)] at HPR
      rw [HPR.out]
      go_enter Tryz.func84, Tryz.ntmps84
      go_wp2_with fail
      rw [HE.out]
      go_wp2_with fail
      refine (HL.out _).mono ?_
      rintro e w1 ⟨rfl, hb1⟩
      have hBn := keepBelow hW hb1
      go_wp2
      go_ret2
      exact ⟨rfl, hBn⟩
    | false =>
      rw [if_neg (by simpa using t1)] at HPR
      have hM2 : M ≤ 12622780800 := by simpa using t1
      have hx0 := Int.ediv_nonneg (a := M) (b := P) (by omega) (by omega)
      have hx1 : M / P ≤ M := Int.ediv_le_self _ (by omega)
      have hy0 := Int.ediv_nonneg (a := M) (b := Q) (by omega) (by omega)
      have hy1 : M / Q ≤ M := Int.ediv_le_self _ (by omega)
      obtain ⟨X, hX⟩ : ∃ X, M / P = X := ⟨_, rfl⟩
      obtain ⟨Y, hY⟩ : ∃ Y, M / Q = Y := ⟨_, rfl⟩
      rw [hX] at hx0 hx1 HPR
      rw [hY] at hy0 hy1 HPR
      have hp1 : 0 ≤ X * (l.length : Int) := Int.mul_nonneg hx0 (by omega)
      have hp2 : X * (l.length : Int) ≤ 12622780800 * 2000 := Int.mul_le_mul (by omega) (by omega) (by omega) (by omega)
      have hp3 : 0 ≤ Y * (m.length : Int) := Int.mul_nonneg hy0 (by omega)
      have hp4 : Y * (m.length : Int) ≤ 12622780800 * 2000 := Int.mul_le_mul (by omega) (by omega) (by omega) (by omega)
      obtain ⟨A, hA⟩ : ∃ A, X * (l.length : Int) = A := ⟨_, rfl⟩
      obtain ⟨B, hB⟩ : ∃ B, Y * (m.length : Int) = B := ⟨_, rfl⟩
      rw [hA] at hp1 hp2 HPR
      rw [hB] at hp3 hp4 HPR
      have s1 : IntKind.i64.wrap A = A := by rw [IntKind.wrap_i64]; omega
      have s2 : IntKind.i64.wrap B = B := by rw [IntKind.wrap_i64]; omega
      have s3 : IntKind.i64.wrap (A + B) = A + B := by rw [IntKind.wrap_i64]; omega
      have hMP : Int.tdiv M P = X := by rw [Int.tdiv_eq_ediv_of_nonneg (by omega)]; exact hX
      have hMQ : Int.tdiv M Q = Y := by rw [Int.tdiv_eq_ediv_of_nonneg (by omega)]; exact hY
      cases t2 : decide (2000 < A + B) with
      | true =>
        rw [if_pos (by simpa using t2)] at HPR
        rw [HPR.out]
        go_enter Tryz.func84, Tryz.ntmps84
        go_wp2_with fail
        rw [HE.out]
        go_wp2_with fail
        refine (HL.out _).mono ?_
        rintro e w1 ⟨rfl, hb1⟩
        have hBn := keepBelow hW hb1
        have e0 := ext_cell (keepCell hb1 c0)
        have e1 := ext_cell (keepCell hb1 c1)
        have e2 := ext_cell (keepCell hb1 c2)
        have e3 := ext_cell (keepCell hb1 c3)
        go_wp2_with fail
        refine wp_region_ext (by kernel_rfl) (by kernel_rfl) ?_
        iterate 18 (go_big_quiet_step (fail))
        refine wpQuiet_nil ?_
        intro w2 hb2
        have hBm := keepBelow hBn hb2
        go_wp2
        go_ret2
        exact ⟨rfl, hBm⟩
      | false =>
        rw [if_neg (by simpa using t2)] at HPR
        rw [HPR.out]
        go_enter Tryz.func84, Tryz.ntmps84
        go_wp2_with fail
        rw [HE.out]
        go_wp2_with fail
        refine (HL.out _).mono ?_
        rintro e w1 ⟨rfl, hb1⟩
        have hBn := keepBelow hW hb1
        have e0 := ext_cell (keepCell hb1 c0)
        have e1 := ext_cell (keepCell hb1 c1)
        have e2 := ext_cell (keepCell hb1 c2)
        have e3 := ext_cell (keepCell hb1 c3)
        go_wp2_with fail
        refine wp_region_ext (by kernel_rfl) (by kernel_rfl) ?_
        iterate 18 (go_big_quiet_step (fail))
        refine wpQuiet_nil ?_
        intro w2 hb2
        have hBm := keepBelow hBn hb2
        go_wp2
        go_ret2
        exact ⟨rfl, hBm⟩
  · rw [if_neg hbig, if_neg hbig] at HL
    rw [if_pos (by omega)] at HPR
    rw [HPR.out]
    go_enter Tryz.func84, Tryz.ntmps84
    go_wp2_with fail
    rw [HE.out]
    go_wp2_with fail
    refine (HL.out _).mono ?_
    rintro e w1 ⟨rfl, hb1⟩
    have hBn := keepBelow hW hb1
    go_wp2
    go_ret2
    exact ⟨rfl, hBn⟩
end Go.Proofs.YtnjpceocnldlfaaGreat
