import Derived.Test.YtlbjfbpejomkmaaGreatWkRfX
import Derived.Test.YtlbjfbpejomkmaaGreatWkBd
import Derived.Test.YtlbjfbpejomkmaaGreatWkPn
import Derived.Test.YtlbjfbpejomkmaaGreatWkPl
/- The reference: Gcd, Mul, Lcm, Pair. -/
namespace Go.Proofs.YtlbjfbpejomkmaaGreat
open Go.RowKit Wk

set_option maxHeartbeats 1000000 in
theorem gcd01_any (m n : Int) (w : World) (hm : 1 ≤ m) (hm2 : m ≤ 12622780800) (hn : 1 ≤ n) (hn2 : n ≤ 12622780800) :
  Calls Tryz.prog 216 #[.int .i64 m, .int .i64 n] w fun e w' => e = .returned (.int .i64 (Int.gcd m n : Int)) ∧ Below w.heap.size w w' := by
 go_enter Tryz.func216, Tryz.ntmps216
 go_wp2_with fail
 go_loopw [0, 1] (fun u v wr => ∃ a b : Int, u = .int .i64 a ∧ v = .int .i64 b ∧ 1 ≤ a ∧ a ≤ 12622780800 ∧ 0 ≤ b ∧ b ≤ 12622780800 ∧ Hid (Int.gcd a b = Int.gcd m n) ∧ Below w.heap.size w wr) (fun _ v _ => (intOf v).toNat)
 case atStart => exact ⟨m, n, rfl, rfl, hm, hm2, by omega, hn2, rfl, Below.refl _ _⟩
 case round =>
  obtain ⟨a, b, rfl, rfl, ha1, ha2, hb1, hb2, HG, hB⟩ := hrel
  by_cases hb0 : b = 0
  ·subst hb0
   have hg : Hid (a = (Int.gcd m n : Int)) := by
    have := HG.out
    rw [Int.gcd_zero_right] at this
    unfold Hid
    omega
   have t1 : (a == -9223372036854775808) = false := by simp; omega
   have t2 : decide (a < 0) = false := by simp; omega
   go_wp2
   go_ret
   exact ⟨ret_int hg.out, hB⟩
  ·have hbp : 0 < b := by omega
   have hz : (b == 0) = false := by simp; omega
   have hz2 : (b != 0) = true := by simp; omega
   have hz3 : (b == -1) = false := by simp; omega
   have e1 : Int.tmod a b = a % b := Int.tmod_eq_emod_of_nonneg (by omega)
   have h1 := Int.emod_nonneg a (b := b) (by omega)
   have h2 := Int.emod_lt_of_pos a hbp
   have HG2 : Hid (Int.gcd b (a % b) = Int.gcd m n) := by unfold Hid; rw [← HG.out]; exact gcd_step (by omega) hbp
   obtain ⟨c, hc⟩ : ∃ c, a % b = c := ⟨_, rfl⟩
   rw [hc] at e1 h1 h2 HG2
   go_wp2_with fail
   refine wp_region_ext (by kernel_rfl) (by kernel_rfl) ?_
   iterate 6 (go_big_quiet_step (fail))
   refine wpQuiet_nil ?_
   intro w1 hb1'
   have hBn := keepBelow hB hb1'
   go_wp2
   go_roundw
   case rel => exact ⟨b, c, rfl, rfl, by omega, hb2, h1, by omega, HG2, hBn⟩
   case measure => simp [intOf]; omega

set_option maxHeartbeats 1000000 in
theorem mul01_any (a b : Int) (w : World) (ha : 1 ≤ a) (ha2 : a ≤ 12622780800) (hb : 1 ≤ b) (hb2 : b ≤ 12622780800) :
  Calls Tryz.prog 215 #[.int .i64 a, .int .i64 b] w fun e w' => e = .returned (.tuple #[.int .i64 (if a * b ≤ 9223372036854775807 then a * b else 0), .int .i64 (if a * b ≤ 9223372036854775807 then 0 else 9)]) ∧ Below w.heap.size w w' := by
 have g1 : (a == 0) = false := by simp; omega
 have g2 : (b == 0) = false := by simp; omega
 have g3 : (a == -9223372036854775808) = false := by simp; omega
 have g4 : (b == -9223372036854775808) = false := by simp; omega
 have hab : 1 ≤ a * b := by have := Int.mul_le_mul ha hb (by omega) (by omega); omega
 obtain ⟨p, hp⟩ : ∃ p, IntKind.i64.wrap (a * b) = p := ⟨_, rfl⟩
 have hp1 : -9223372036854775808 ≤ p ∧ p ≤ 9223372036854775807 := by
  rw [IntKind.wrap_i64] at hp
  generalize a * b = x at *
  omega
 have hq := Int.natAbs_tdiv_le_natAbs p b
 by_cases h : a * b ≤ 9223372036854775807
 ·rw [if_pos h, if_pos h]
  have hpe : p = a * b := by
   rw [IntKind.wrap_i64] at hp
   generalize a * b = x at *
   omega
  have hdiv : p / b = a := by rw [hpe]; exact Int.mul_ediv_cancel _ (by omega)
  have hp0 : 0 ≤ p := by omega
  have htd : p.tdiv b = a := by rw [Int.tdiv_eq_ediv_of_nonneg hp0]; exact hdiv
  have t1 : ((p / b) != a) = false := by simp [hdiv]
  have t2 : ((p.tdiv b) != a) = false := by simp [htd]
  have HPE := Lib.hid hpe
  rw [← hpe]
  clear h hpe hdiv htd hab
  go_enter Tryz.func215, Tryz.ntmps215
  go_wp2
  all_goals go_ret2
  all_goals exact ⟨rfl, Below.refl _ _⟩
 ·rw [if_neg h, if_neg h]
  have H := Lib.hid h
  have hne : ¬ p.tdiv b = a := by
   intro e
   have h1 := Int.mul_tdiv_add_tmod p b
   rw [e] at h1
   by_cases hp0 : 0 ≤ p
   ·have h2 := Int.tmod_nonneg b hp0
    rw [Int.mul_comm] at h1
    omega
   ·have : p.tdiv b ≤ 0 := by
     have e2 := Int.neg_tdiv (-p) b
     rw [Int.neg_neg] at e2
     have := Int.tdiv_nonneg (a := -p) (b := b) (by omega) (by omega)
     omega
    omega
  have t2 : ((p.tdiv b) != a) = true := by simpa using hne
  have HNE := Lib.hid hne
  by_cases hp0 : 0 ≤ p
  ·have htd : p.tdiv b = p / b := Int.tdiv_eq_ediv_of_nonneg hp0
   have t1 : ((p / b) != a) = true := by rw [← htd]; exact t2
   clear h hne hab htd
   go_enter Tryz.func215, Tryz.ntmps215
   go_wp2
   all_goals go_ret2
   all_goals exact ⟨rfl, Below.refl _ _⟩
  ·clear h hne hab
   go_enter Tryz.func215, Tryz.ntmps215
   go_wp2
   all_goals go_ret2
   all_goals exact ⟨rfl, Below.refl _ _⟩

set_option maxHeartbeats 1000000 in
theorem lcm01_any (P Q : Int) (w : World) (hP : 1 ≤ P) (hP2 : P ≤ 12622780800) (hQ : 1 ≤ Q) (hQ2 : Q ≤ 12622780800) :
  Calls Tryz.prog 200 #[.int .i64 P, .int .i64 Q] w fun e w' => e = .returned (.tuple #[.int .i64 (if mulM P Q ≤ 9223372036854775807 then mulM P Q else 0), .int .i64 (if mulM P Q ≤ 9223372036854775807 then 0 else 9)]) ∧ Below w.heap.size w w' := by
 have HG := Lib.hid (fun W => gcd01_any P Q W hP hP2 hQ hQ2)
 obtain ⟨b1, b2, b3⟩ := mulM_bd hP hQ
 have hg : 0 < Int.gcd P Q := Int.gcd_pos_of_ne_zero_left _ (by omega)
 have hle := Int.le_of_dvd (by omega) (Int.gcd_dvd_left (a := P) (b := Q))
 have HMU : Hid (mulM P Q = P / (Int.gcd P Q : Int) * Q) := rfl
 obtain ⟨M, hM⟩ : ∃ M, mulM P Q = M := ⟨_, rfl⟩
 rw [hM] at HMU ⊢
 have e1 : Int.tdiv P (Int.gcd P Q : Int) = P / (Int.gcd P Q : Int) := Int.tdiv_eq_ediv_of_nonneg (by omega)
 obtain ⟨g, hgg⟩ : ∃ g, (Int.gcd P Q : Int) = g := ⟨_, rfl⟩
 rw [hgg] at HG HMU b1 b2 e1 hle
 have hg1 : 1 ≤ g := by omega
 obtain ⟨q, hq⟩ : ∃ q, P / g = q := ⟨_, rfl⟩
 rw [hq] at HMU b1 b2 e1
 have HMUL := Lib.hid (fun W => mul01_any q Q W b1 (by omega) hQ hQ2)
 rw [← HMU.out] at HMUL
 have t1 : decide (P < 1) = false := by simp; omega
 have t2 : decide (Q < 1) = false := by simp; omega
 clear hM hgg hg b3
 obtain ⟨r1, hr1⟩ : ∃ r1, (if M ≤ 9223372036854775807 then M else 0) = r1 := ⟨_, rfl⟩
 obtain ⟨r2, hr2⟩ : ∃ r2, (if M ≤ 9223372036854775807 then (0 : Int) else 9) = r2 := ⟨_, rfl⟩
 rw [hr1, hr2]
 simp only [hr1, hr2] at HMUL
 clear hr1 hr2
 go_enter Tryz.func200, Tryz.ntmps200
 go_wp2_with fail
 refine (HG.out _).mono ?_
 rintro e w1 ⟨rfl, hb1⟩
 go_wp2_with fail
 refine (HMUL.out _).mono ?_
 rintro e w2 ⟨rfl, hb2⟩
 have hBn := keepBelow hb1 hb2
 go_wp2
 go_ret2
 exact ⟨rfl, hBn⟩

set_option maxRecDepth 100000 in
set_option maxHeartbeats 2000000 in
theorem pair13_any (P Q : Int) (v k : Value) (l m : List Sp) (w : World) (h1 : RdS w v l) (h2 : RdS w k m) (hP : 1 ≤ P) (hP2 : P ≤ 12622780800) (hQ : 1 ≤ Q) (hQ2 : Q ≤ 12622780800) (hl : l.length ≤ 2000) (hm : m.length ≤ 2000) :
  Calls Tryz.prog 183 #[.agg #[.int .i64 P, v], .agg #[.int .i64 Q, k]] w fun e w' => e = .returned (.tuple #[.int .i64 (pairR P l.length Q m.length).1, .int .i64 (pairR P l.length Q m.length).2]) ∧ Below w.heap.size w w' := by
 have HL := Lib.hid (fun W => lcm01_any P Q W hP hP2 hQ hQ2)
 obtain ⟨a1, d1, rfl, _, _⟩ := h1
 obtain ⟨a2, d2, rfl, _, _⟩ := h2
 obtain ⟨W, hWe⟩ : ∃ W, (w.alloc (.cells #[.int .i64 P, .slice a1 l.length d1] 52)).alloc (.cells #[.int .i64 Q, .slice a2 m.length d2] 52) = W := ⟨_, rfl⟩
 have hW : Below w.heap.size w W := by rw [← hWe]; exact ((Below.refl _ _).alloc (Nat.le_refl _) _).alloc (by simp) _
 have c0 : W.cell? ⟨w.heap.size, 0, none⟩ = some (.int .i64 P) := by rw [← hWe]; simp [go_sem]
 have c1 : W.cell? ⟨w.heap.size, 1, none⟩ = some (.slice a1 l.length d1) := by rw [← hWe]; simp [go_sem]
 have c2 : W.cell? ⟨w.heap.size + 1, 0, none⟩ = some (.int .i64 Q) := by rw [← hWe]; simp [go_sem]
 have c3 : W.cell? ⟨w.heap.size + 1, 1, none⟩ = some (.slice a2 m.length d2) := by rw [← hWe]; simp [go_sem]
 have HE := Lib.hid hWe
 clear hWe
 obtain ⟨_, _, b3⟩ := mulM_bd hP hQ
 have HPR : Hid (pairR P l.length Q m.length = if 12622780800 < mulM P Q then (0, 9) else if 2000 < mulM P Q / P * l.length + mulM P Q / Q * m.length then (0, 5) else (mulM P Q, 0)) := rfl
 obtain ⟨M, hM⟩ : ∃ M, mulM P Q = M := ⟨_, rfl⟩
 rw [hM] at HL HPR b3
 clear hM
 by_cases hbig : M ≤ 9223372036854775807
 ·rw [if_pos hbig, if_pos hbig] at HL
  cases t1 : decide (12622780800 < M) with
  | true =>
   rw [if_pos (by simpa using t1)] at HPR
   rw [HPR.out]
   go_enter Tryz.func183, Tryz.ntmps183
   go_wp2_with fail
   rw [HE.out]
   go_wp2_with fail
   refine (HL.out _).mono ?_
   rintro e w1 ⟨rfl, hb1⟩
   have hBn := keepBelow hW hb1
   go_wp2
   go_ret2
   exact ⟨rfl, hBn⟩
  | false =>
   rw [if_neg (by simpa using t1)] at HPR
   have hM2 : M ≤ 12622780800 := by simpa using t1
   have hx0 := Int.ediv_nonneg (a := M) (b := P) (by omega) (by omega)
   have hx1 : M / P ≤ M := Int.ediv_le_self _ (by omega)
   have hy0 := Int.ediv_nonneg (a := M) (b := Q) (by omega) (by omega)
   have hy1 : M / Q ≤ M := Int.ediv_le_self _ (by omega)
   obtain ⟨X, hX⟩ : ∃ X, M / P = X := ⟨_, rfl⟩
   obtain ⟨Y, hY⟩ : ∃ Y, M / Q = Y := ⟨_, rfl⟩
   rw [hX] at hx0 hx1 HPR
   rw [hY] at hy0 hy1 HPR
   have hp1 : 0 ≤ X * (l.length : Int) := Int.mul_nonneg hx0 (by omega)
   have hp2 : X * (l.length : Int) ≤ 12622780800 * 2000 := Int.mul_le_mul (by omega) (by omega) (by omega) (by omega)
   have hp3 : 0 ≤ Y * (m.length : Int) := Int.mul_nonneg hy0 (by omega)
   have hp4 : Y * (m.length : Int) ≤ 12622780800 * 2000 := Int.mul_le_mul (by omega) (by omega) (by omega) (by omega)
   obtain ⟨A, hA⟩ : ∃ A, X * (l.length : Int) = A := ⟨_, rfl⟩
   obtain ⟨B, hB⟩ : ∃ B, Y * (m.length : Int) = B := ⟨_, rfl⟩
   rw [hA] at hp1 hp2 HPR
   rw [hB] at hp3 hp4 HPR
   have s1 : IntKind.i64.wrap A = A := by rw [IntKind.wrap_i64]; omega
   have s2 : IntKind.i64.wrap B = B := by rw [IntKind.wrap_i64]; omega
   have s3 : IntKind.i64.wrap (A + B) = A + B := by rw [IntKind.wrap_i64]; omega
   have hMP : Int.tdiv M P = X := by rw [Int.tdiv_eq_ediv_of_nonneg (by omega)]; exact hX
   have hMQ : Int.tdiv M Q = Y := by rw [Int.tdiv_eq_ediv_of_nonneg (by omega)]; exact hY
   cases t2 : decide (2000 < A + B) with
   | true =>
    rw [if_pos (by simpa using t2)] at HPR
    rw [HPR.out]
    go_enter Tryz.func183, Tryz.ntmps183
    go_wp2_with fail
    rw [HE.out]
    go_wp2_with fail
    refine (HL.out _).mono ?_
    rintro e w1 ⟨rfl, hb1⟩
    have hBn := keepBelow hW hb1
    have e0 := ext_cell (keepCell hb1 c0)
    have e1 := ext_cell (keepCell hb1 c1)
    have e2 := ext_cell (keepCell hb1 c2)
    have e3 := ext_cell (keepCell hb1 c3)
    go_wp2_with fail
    refine wp_region_ext (by kernel_rfl) (by kernel_rfl) ?_
    iterate 18 (go_big_quiet_step (fail))
    refine wpQuiet_nil ?_
    intro w2 hb2
    have hBm := keepBelow hBn hb2
    go_wp2
    go_ret2
    exact ⟨rfl, hBm⟩
   | false =>
    rw [if_neg (by simpa using t2)] at HPR
    rw [HPR.out]
    go_enter Tryz.func183, Tryz.ntmps183
    go_wp2_with fail
    rw [HE.out]
    go_wp2_with fail
    refine (HL.out _).mono ?_
    rintro e w1 ⟨rfl, hb1⟩
    have hBn := keepBelow hW hb1
    have e0 := ext_cell (keepCell hb1 c0)
    have e1 := ext_cell (keepCell hb1 c1)
    have e2 := ext_cell (keepCell hb1 c2)
    have e3 := ext_cell (keepCell hb1 c3)
    go_wp2_with fail
    refine wp_region_ext (by kernel_rfl) (by kernel_rfl) ?_
    iterate 18 (go_big_quiet_step (fail))
    refine wpQuiet_nil ?_
    intro w2 hb2
    have hBm := keepBelow hBn hb2
    go_wp2
    go_ret2
    exact ⟨rfl, hBm⟩
 ·rw [if_neg hbig, if_neg hbig] at HL
  rw [if_pos (by omega)] at HPR
  rw [HPR.out]
  go_enter Tryz.func183, Tryz.ntmps183
  go_wp2_with fail
  rw [HE.out]
  go_wp2_with fail
  refine (HL.out _).mono ?_
  rintro e w1 ⟨rfl, hb1⟩
  have hBn := keepBelow hW hb1
  go_wp2
  go_ret2
  exact ⟨rfl, hBn⟩
end Go.Proofs.YtlbjfbpejomkmaaGreat
namespace Go.Proofs.YtlbjfbpejomkmaaGreat
open Go.RowKit Wk

def CgPost (P : Int) (l : List Sp) (w : World) (e : Ending) (w' : World) : Prop := ∃ v L, e = .returned v ∧ OwnI w' w.heap.size v L ∧ ChgOf P l L ∧ L.length ≤ 2 * l.length ∧ Below w.heap.size w w'
theorem edge_yes {P : Int} {l : List Sp} {x : Int} (h : (hasP (P, l) x == hasP (P, l) (x - 1)) = true) : ¬ EdgeP P l x := by
 intro hE
 simp at h
 exact hE h.symm

set_option maxRecDepth 100000 in
set_option maxHeartbeats 4000000 in
theorem changes_any (P : Int) (v : Value) (l : List Sp) (w : World) (h : RdS w v l) (hg : GoodP (P, l)) (hP2 : P ≤ 12622780800) (hll : l.length ≤ 2000) :
  Calls Tryz.prog 161 #[.agg #[.int .i64 P, v]] w (CgPost P l w) := by
 have hP1 : 1 ≤ P := hg.pos
 have HD := Lib.hid h
 have HG := Lib.hid hg
 obtain ⟨a, c, rfl, hl, hc⟩ := h
 have HH : Hid (∀ z W, RdS W (.slice a l.length c) l → 0 - 1 ≤ z → z ≤ P → Calls Tryz.prog 81 #[.agg #[.int .i64 P, .slice a l.length c], .int .i64 z] W fun e w' => e = .returned (.bool (hasP (P, l) z)) ∧ Below W.heap.size W w') := fun z W hr h1 h2 => has13_any P z _ l W hr hP1 hP2 (by omega) (by omega)
 obtain ⟨W, hWe⟩ : ∃ W, w.alloc (.cells #[.int .i64 P, .slice a l.length c] 52) = W := ⟨_, rfl⟩
 have hB0 : Below w.heap.size w W := by rw [← hWe]; exact (Below.refl _ _).alloc (Nat.le_refl _) _
 have c0 : W.cell? ⟨w.heap.size, 0, none⟩ = some (.int .i64 P) := by rw [← hWe]; simp [go_sem]
 have c1 : W.cell? ⟨w.heap.size, 1, none⟩ = some (.slice a l.length c) := by rw [← hWe]; simp [go_sem]
 have HE := Lib.hid hWe
 have HC := Lib.hid hc
 clear hWe hc hg
 go_enter Tryz.func161, Tryz.ntmps161
 go_wp2_with fail
 rw [HE.out]
 go_wp2_with fail
 go_loopw [3, 4] (fun u vi wr => ∃ (k : Nat) (L : List Int), vi = .int .i64 k ∧ k ≤ l.length ∧ OwnI wr W.heap.size u L ∧ Hid (ChgT P l L k) ∧ Below W.heap.size W wr) (fun _ vi _ => l.length - (intOf vi).toNat)
 case atStart => exact ⟨0, [], rfl, Nat.zero_le _, OwnI.nil _ _, ChgT.start P l, Below.refl _ _⟩
 case round =>
  obtain ⟨k, L, rfl, hk, ho, HT, hB⟩ := hrel
  have k0 := keepCell hB c0
  have k1 := keepCell hB c1
  have hBw := keepBelow hB0 hB
  by_cases hlt : k < l.length
  ·obtain ⟨bb, o, x, y, rfl, hbw, HXY, d1, d2⟩ := rd_at HC.out hBw hlt
   have hin := HG.out.ins _ (mem_of_getD HXY.out hlt)
   have hxy := canon_pos HG.out.canon _ (mem_of_getD HXY.out hlt)
   simp only at hin hxy
   have y0 := Int.emod_nonneg y (b := P) (by omega)
   have y1 := Int.emod_lt_of_pos y (b := P) (by omega)
   have hy0 : 0 ≤ y := by omega
   have etm : Int.tmod y P = y % P := Int.tmod_eq_emod_of_nonneg hy0
   obtain ⟨t, ht⟩ : ∃ t, y % P = t := ⟨_, rfl⟩
   rw [ht] at y0 y1 etm
   have HTT := Lib.hid ht
   have hlen := HT.out.len
   have e0 := ext_cell k0
   have e1 := ext_cell k1
   have e2 := ext_cell d1
   have e3 := ext_cell d2
   have hPne : (P == 0) = false := by simp; omega
   have hx1 : x < P := by omega
   have hx0 : 0 ≤ x := hin.1
   have hlt' : (k : Int) < (l.length : Int) := by omega
   go_wp2_with fail
   refine wp_region_ext (by kernel_rfl) (by kernel_rfl) ?_
   iterate 17 (go_big_quiet_step (fail))
   refine wpQuiet_nil ?_
   intro w2 hb2
   have hB2 := keepBelow hB hb2
   have HBw2 := Lib.hid (keepBelow hBw hb2)
   have ho2 := ho.below hb2
   have m0 := keepCell hb2 k0
   have m1 := keepCell hb2 k1
   clear e0 e1 e2 e3 d1 d2 ho k0 k1 hb2 ht
   have e0 := ext_cell m0
   have e1 := ext_cell m1
   have HR2 := Lib.hid (keepRd HBw2.out HD.out)
   cases hr1 : (hasP (P, l) x == hasP (P, l) (x - 1)) with
   | false =>
    have HAtrue := Lib.hid hr1
    go_wp2_with fail
    refine wp_region_ext (by kernel_rfl) (by kernel_rfl) ?_
    iterate 8 (go_big_quiet_step ((go_at_call 81; refine calls_ext (HH.out _ _ (ext_rd HR2.out _) (by omega) (by omega)))))
    refine wpQuiet_nil ?_
    intro w3 hb3
    have hB3 := keepBelow hB2 hb3
    have ho3 := ho2.below hb3
    have n0 := keepCell hb3 m0
    have n1 := keepCell hb3 m1
    have HBw3 := Lib.hid (keepBelow HBw2.out hb3)
    clear e0 e1 m0 m1 ho2 hb3
    go_upto_region 8 with (at_builtin; refine wpList_app_int rfl (.tmp 37) (.tmp 39) rfl rfl ho3 hB3 rfl rfl (by omega) ?_; intro v4 w4 o4 b4 k4 z4)
    have p0 := keepCell (W := W) b4 c0
    have p1 := keepCell (W := W) b4 c1
    have HBw4 := Lib.hid (keepBelow hB0 b4)
    clear n0 n1 k4 z4 hB3 ho3
    have q0 := ext_cell p0
    have q1 := ext_cell p1
    have HR4 := Lib.hid (keepRd HBw4.out HD.out)
    cases hr2 : (hasP (P, l) t == hasP (P, l) (t - 1)) with
    | false =>
     have HS : Hid (ChgT P l (L ++ [x] ++ [t]) (k + 1)) := ChgT.step HT.out HXY.out hx0 hx1 hP1 (.inl rfl) (.inl (by rw [HTT.out]))
     have HR2' := Lib.hid hr2
     go_wp2_with fail
     refine wp_region_ext (by kernel_rfl) (by kernel_rfl) ?_
     iterate 8 (go_big_quiet_step ((go_at_call 81; refine calls_ext (HH.out _ _ (ext_rd HR4.out _) (by omega) (by omega)))))
     refine wpQuiet_nil ?_
     intro w5 hb5
     have hB5 := keepBelow b4 hb5
     have ho5 := o4.below hb5
     clear q0 q1
     go_wp2_with (at_builtin; refine wpList_app_int rfl (.tmp 49) (.tmp 51) rfl rfl ho5 hB5 rfl rfl (by simp; omega) ?_; intro v6 w6 o6 b6 k6 z6; clear k6)
     go_roundw
     case rel => exact ⟨k + 1, _, by go_num, by omega, o6, HS, b6⟩
     case measure => simp [intOf]; omega
    | true =>
     have HS : Hid (ChgT P l (L ++ [x] ++ []) (k + 1)) := ChgT.step HT.out HXY.out hx0 hx1 hP1 (.inl rfl) (.inr ⟨rfl, by rw [HTT.out]; exact edge_yes hr2⟩)
     have HR2' := Lib.hid hr2
     go_wp2_with fail
     refine wp_region_ext (by kernel_rfl) (by kernel_rfl) ?_
     iterate 8 (go_big_quiet_step ((go_at_call 81; refine calls_ext (HH.out _ _ (ext_rd HR4.out _) (by omega) (by omega)))))
     refine wpQuiet_nil ?_
     intro w5 hb5
     have hB5 := keepBelow b4 hb5
     have ho5 := o4.below hb5
     clear q0 q1
     go_wp2
     go_roundw
     case rel => exact ⟨k + 1, _, by go_num, by omega, by rw [List.append_nil]; exact ho5, HS, hB5⟩
     case measure => simp [intOf]; omega
   | true =>
    have HAfalse := Lib.hid hr1
    go_wp2_with fail
    refine wp_region_ext (by kernel_rfl) (by kernel_rfl) ?_
    iterate 8 (go_big_quiet_step ((go_at_call 81; refine calls_ext (HH.out _ _ (ext_rd HR2.out _) (by omega) (by omega)))))
    refine wpQuiet_nil ?_
    intro w3 hb3
    have hB3 := keepBelow hB2 hb3
    have ho3 := ho2.below hb3
    have n0 := keepCell hb3 m0
    have n1 := keepCell hb3 m1
    have HBw3 := Lib.hid (keepBelow HBw2.out hb3)
    clear e0 e1 m0 m1 ho2 hb3
    have q0 := ext_cell n0
    have q1 := ext_cell n1
    have HR4 := Lib.hid (keepRd HBw3.out HD.out)
    cases hr2 : (hasP (P, l) t == hasP (P, l) (t - 1)) with
    | false =>
     have HS : Hid (ChgT P l (L ++ [] ++ [t]) (k + 1)) := ChgT.step HT.out HXY.out hx0 hx1 hP1 (.inr ⟨rfl, edge_yes HAfalse.out⟩) (.inl (by rw [HTT.out]))
     have HR2' := Lib.hid hr2
     go_wp2_with fail
     refine wp_region_ext (by kernel_rfl) (by kernel_rfl) ?_
     iterate 8 (go_big_quiet_step ((go_at_call 81; refine calls_ext (HH.out _ _ (ext_rd HR4.out _) (by omega) (by omega)))))
     refine wpQuiet_nil ?_
     intro w5 hb5
     have hB5 := keepBelow hB3 hb5
     have ho5 := ho3.below hb5
     clear q0 q1
     go_wp2_with (at_builtin; refine wpList_app_int rfl (.tmp 49) (.tmp 51) rfl rfl ho5 hB5 rfl rfl (by omega) ?_; intro v6 w6 o6 b6 k6 z6; clear k6)
     go_roundw
     case rel => exact ⟨k + 1, _, by go_num, by omega, by rw [List.append_nil]; exact o6, HS, b6⟩
     case measure => simp [intOf]; omega
    | true =>
     have HS : Hid (ChgT P l (L ++ [] ++ []) (k + 1)) := ChgT.step HT.out HXY.out hx0 hx1 hP1 (.inr ⟨rfl, edge_yes HAfalse.out⟩) (.inr ⟨rfl, by rw [HTT.out]; exact edge_yes hr2⟩)
     have HR2' := Lib.hid hr2
     go_wp2_with fail
     refine wp_region_ext (by kernel_rfl) (by kernel_rfl) ?_
     iterate 8 (go_big_quiet_step ((go_at_call 81; refine calls_ext (HH.out _ _ (ext_rd HR4.out _) (by omega) (by omega)))))
     refine wpQuiet_nil ?_
     intro w5 hb5
     have hB5 := keepBelow hB3 hb5
     have ho5 := ho3.below hb5
     clear q0 q1
     go_wp2
     go_roundw
     case rel => exact ⟨k + 1, _, by go_num, by omega, by rw [List.append_nil, List.append_nil]; exact ho5, HS, hB5⟩
     case measure => simp [intOf]; omega
  ·have HO : Hid (ChgOf P l L) := by
    have h1 := HT.out
    have e : k = l.length := by omega
    rw [e] at h1
    exact h1.done HG.out
   have hlen := HT.out.len
   go_wp2
   go_ret
   exact ⟨_, L, rfl, ho.mono hB0.size, HO.out, by omega, hBw⟩
end Go.Proofs.YtlbjfbpejomkmaaGreat
namespace Go.Proofs.YtlbjfbpejomkmaaGreat
open Go.RowKit Wk

def BfPost (P : Int) (l : List Sp) (x : Int) (w : World) (e : Ending) (w' : World) : Prop := ∃ c b, e = .returned (.tuple #[.int .i64 c, .bool b]) ∧ NoB P l x b c ∧ Below w.heap.size w w'

set_option maxRecDepth 100000 in
set_option maxHeartbeats 4000000 in
theorem before14_any (P x : Int) (v : Value) (l : List Sp) (w : World) (h : RdS w v l) (hg : GoodP (P, l)) (hP2 : P ≤ 12622780800) (hll : l.length ≤ 2000) (hx1 : -1152921504606846976 ≤ x) (hx2 : x ≤ 1152921504606846976) :
  Calls Tryz.prog 184 #[.agg #[.int .i64 P, v], .int .i64 x] w (BfPost P l x w) := by
 have hP1 : 1 ≤ P := hg.pos
 have HCG := Lib.hid (fun W hr => changes_any P v l W hr hg hP2 hll)
 have HMOD := Lib.hid (fun W => rmod_any x P W hP1 (by omega) hx1 hx2)
 have HD := Lib.hid h
 have r0 := Int.emod_nonneg x (b := P) (by omega)
 have r1 := Int.emod_lt_of_pos x (b := P) (by omega)
 obtain ⟨r, hr⟩ : ∃ r, x % P = r := ⟨_, rfl⟩
 rw [hr] at r0 r1 HMOD
 have HXR := Lib.hid hr
 clear hr
 obtain ⟨a, c, rfl, _, _⟩ := h
 obtain ⟨W, hWe⟩ : ∃ W, w.alloc (.cells #[.int .i64 P, .slice a l.length c] 52) = W := ⟨_, rfl⟩
 have hB0 : Below w.heap.size w W := by rw [← hWe]; exact (Below.refl _ _).alloc (Nat.le_refl _) _
 have c0 : W.cell? ⟨w.heap.size, 0, none⟩ = some (.int .i64 P) := by rw [← hWe]; simp [go_sem]
 have c1 : W.cell? ⟨w.heap.size, 1, none⟩ = some (.slice a l.length c) := by rw [← hWe]; simp [go_sem]
 have HE := Lib.hid hWe
 clear hWe
 go_enter Tryz.func184, Tryz.ntmps184
 go_wp2_with fail
 rw [HE.out]
 go_wp2_with fail
 refine (HCG.out W (keepRd hB0 HD.out)).mono ?_
 rintro e w1 ⟨v1, L, rfl, ho, hch, hlL, hb1⟩
 have k0 := keepCell hb1 c0
 have hB1 := keepBelow hB0 hb1
 obtain ⟨p1, n1, rfl, hfx⟩ := ho.form
 have HF := Lib.hid hfx
 have HCH := Lib.hid hch
 clear c0 c1 ho hfx hb1 hch
 go_wp2_with fail
 refine (HMOD.out _).mono ?_
 rintro e w2 ⟨rfl, hb2⟩
 have m0 := keepCell hb2 k0
 have hB2 := keepBelow hB1 hb2
 have HF2 : Hid (∀ i, i < L.length → ∃ g, p1 = some ⟨g, 0, none⟩ ∧ w2.cell? ⟨g, i, none⟩ = some (.int .i64 (L.getD i 0))) := by
  intro i hi
  obtain ⟨g, e1, _, e2⟩ := HF.out i hi
  exact ⟨g, e1, keepCell hb2 e2⟩
 clear k0 hb2
 go_wp2_with fail
 go_loopw [8, 9, 10] (fun ub uo vi wr => ∃ (k : Nat) (best : Int) (b : Bool), ub = .int .i64 best ∧ uo = .bool b ∧ vi = .int .i64 k ∧ k ≤ L.length ∧ (b = true → x - P ≤ best ∧ best < x) ∧ Hid (∀ j, j < k → b = true ∧ candB P x (L.getD j 0) ≤ best) ∧ Below w2.heap.size w2 wr) (fun _ _ vi _ => L.length - (intOf vi).toNat)
 case atStart => exact ⟨0, 0, false, rfl, rfl, rfl, Nat.zero_le _, (fun hh => by cases hh), fun j hj => by omega, Below.refl _ _⟩
 case round =>
  obtain ⟨k, best, b, rfl, rfl, rfl, hk, hbb, HJ, hB⟩ := hrel
  have q0 := keepCell hB m0
  have hBw := keepBelow hB2 hB
  by_cases hlt : k < L.length
  ·obtain ⟨g, rfl, d⟩ := HF2.out k hlt
   have hab := HCH.out.bd _ (getD_mem hlt)
   obtain ⟨z, hz⟩ : ∃ z, L.getD k 0 = z := ⟨_, rfl⟩
   rw [hz] at d hab
   have hcb := candB_bd (x := x) hP1 hab.1 hab.2
   have HZ := Lib.hid hz
   have d1 := keepCell hB d
   have hz0 : 0 ≤ z := hab.1
   have hz1 : z < P := hab.2
   clear hz d hab
   by_cases hc : x ≤ x - r + z
   ·have HCA : Hid (candB P x z = x - r + z - P) := by unfold Hid candB; rw [HXR.out, if_pos hc]
    rw [HCA.out] at hcb
    have t1 : decide (x ≤ x - r + z) = true := by simpa using hc
    clear hc
    cases b with
    | false =>
     have HJ2 : Hid (∀ j, j < k + 1 → true = true ∧ candB P x (L.getD j 0) ≤ (x - r + z - P)) := fun j hj => by
      rcases Nat.lt_succ_iff_lt_or_eq.1 hj with h | rfl
      ·have := HJ.out j h
       exact ⟨rfl, absurd this.1 (by simp)⟩
      ·rw [HZ.out, HCA.out]
       exact ⟨rfl, Int.le_refl _⟩
     go_wp2
     go_roundw
     case rel => exact ⟨k + 1, x - r + z - P, true, rfl, rfl, by go_num, by omega, fun _ => ⟨by omega, by omega⟩, HJ2, hB⟩
     case measure => simp [intOf]; omega
    | true =>
     have hbb := hbb rfl
     by_cases hb : best < x - r + z - P
     ·have t2 : decide (best < x - r + z - P) = true := by simpa using hb
      have HJ2 : Hid (∀ j, j < k + 1 → true = true ∧ candB P x (L.getD j 0) ≤ (x - r + z - P)) := fun j hj => by
       rcases Nat.lt_succ_iff_lt_or_eq.1 hj with h | rfl
       ·have := HJ.out j h
        exact ⟨rfl, by have := this.2; omega⟩
       ·rw [HZ.out, HCA.out]
        exact ⟨rfl, Int.le_refl _⟩
      go_wp2
      go_roundw
      case rel => exact ⟨k + 1, x - r + z - P, true, rfl, rfl, by go_num, by omega, fun _ => ⟨by omega, by omega⟩, HJ2, hB⟩
      case measure => simp [intOf]; omega
     ·have t2 : decide (best < x - r + z - P) = false := by simpa using hb
      have HJ2 : Hid (∀ j, j < k + 1 → true = true ∧ candB P x (L.getD j 0) ≤ best) := fun j hj => by
       rcases Nat.lt_succ_iff_lt_or_eq.1 hj with h | rfl
       ·have := HJ.out j h
        exact ⟨rfl, this.2⟩
       ·rw [HZ.out, HCA.out]
        exact ⟨rfl, by omega⟩
      go_wp2
      go_roundw
      case rel => exact ⟨k + 1, best, true, rfl, rfl, by go_num, by omega, fun _ => hbb, HJ2, hB⟩
      case measure => simp [intOf]; omega
   ·have HCA : Hid (candB P x z = x - r + z) := by unfold Hid candB; rw [HXR.out, if_neg hc]
    rw [HCA.out] at hcb
    have t1 : decide (x ≤ x - r + z) = false := by simpa using hc
    clear hc
    cases b with
    | false =>
     have HJ2 : Hid (∀ j, j < k + 1 → true = true ∧ candB P x (L.getD j 0) ≤ (x - r + z)) := fun j hj => by
      rcases Nat.lt_succ_iff_lt_or_eq.1 hj with h | rfl
      ·have := HJ.out j h
       exact ⟨rfl, absurd this.1 (by simp)⟩
      ·rw [HZ.out, HCA.out]
       exact ⟨rfl, Int.le_refl _⟩
     go_wp2
     go_roundw
     case rel => exact ⟨k + 1, x - r + z, true, rfl, rfl, by go_num, by omega, fun _ => ⟨by omega, by omega⟩, HJ2, hB⟩
     case measure => simp [intOf]; omega
    | true =>
     have hbb := hbb rfl
     by_cases hb : best < x - r + z
     ·have t2 : decide (best < x - r + z) = true := by simpa using hb
      have HJ2 : Hid (∀ j, j < k + 1 → true = true ∧ candB P x (L.getD j 0) ≤ (x - r + z)) := fun j hj => by
       rcases Nat.lt_succ_iff_lt_or_eq.1 hj with h | rfl
       ·have := HJ.out j h
        exact ⟨rfl, by have := this.2; omega⟩
       ·rw [HZ.out, HCA.out]
        exact ⟨rfl, Int.le_refl _⟩
      go_wp2
      go_roundw
      case rel => exact ⟨k + 1, x - r + z, true, rfl, rfl, by go_num, by omega, fun _ => ⟨by omega, by omega⟩, HJ2, hB⟩
      case measure => simp [intOf]; omega
     ·have t2 : decide (best < x - r + z) = false := by simpa using hb
      have HJ2 : Hid (∀ j, j < k + 1 → true = true ∧ candB P x (L.getD j 0) ≤ best) := fun j hj => by
       rcases Nat.lt_succ_iff_lt_or_eq.1 hj with h | rfl
       ·have := HJ.out j h
        exact ⟨rfl, this.2⟩
       ·rw [HZ.out, HCA.out]
        exact ⟨rfl, by omega⟩
      go_wp2
      go_roundw
      case rel => exact ⟨k + 1, best, true, rfl, rfl, by go_num, by omega, fun _ => hbb, HJ2, hB⟩
      case measure => simp [intOf]; omega
  ·have HN : Hid (NoB P l x b best) := NoB.mk hP1 HCH.out b hbb fun j hj => HJ.out j (by omega)
   clear hbb
   go_wp2
   go_ret2
   exact ⟨best, b, rfl, HN.out, hBw⟩

def AfPost (P : Int) (l : List Sp) (x : Int) (w : World) (e : Ending) (w' : World) : Prop := ∃ c b, e = .returned (.tuple #[.int .i64 c, .bool b]) ∧ NoA P l x b c ∧ Below w.heap.size w w'

set_option maxRecDepth 100000 in
set_option maxHeartbeats 4000000 in
theorem after14_any (P x : Int) (v : Value) (l : List Sp) (w : World) (h : RdS w v l) (hg : GoodP (P, l)) (hP2 : P ≤ 12622780800) (hll : l.length ≤ 2000) (hx1 : -1152921504606846976 ≤ x) (hx2 : x ≤ 1152921504606846976) :
  Calls Tryz.prog 123 #[.agg #[.int .i64 P, v], .int .i64 x] w (AfPost P l x w) := by
 have hP1 : 1 ≤ P := hg.pos
 have HCG := Lib.hid (fun W hr => changes_any P v l W hr hg hP2 hll)
 have HMOD := Lib.hid (fun W => rmod_any x P W hP1 (by omega) hx1 hx2)
 have HD := Lib.hid h
 have r0 := Int.emod_nonneg x (b := P) (by omega)
 have r1 := Int.emod_lt_of_pos x (b := P) (by omega)
 obtain ⟨r, hr⟩ : ∃ r, x % P = r := ⟨_, rfl⟩
 rw [hr] at r0 r1 HMOD
 have HXR := Lib.hid hr
 clear hr
 obtain ⟨a, c, rfl, _, _⟩ := h
 obtain ⟨W, hWe⟩ : ∃ W, w.alloc (.cells #[.int .i64 P, .slice a l.length c] 52) = W := ⟨_, rfl⟩
 have hB0 : Below w.heap.size w W := by rw [← hWe]; exact (Below.refl _ _).alloc (Nat.le_refl _) _
 have c0 : W.cell? ⟨w.heap.size, 0, none⟩ = some (.int .i64 P) := by rw [← hWe]; simp [go_sem]
 have c1 : W.cell? ⟨w.heap.size, 1, none⟩ = some (.slice a l.length c) := by rw [← hWe]; simp [go_sem]
 have HE := Lib.hid hWe
 clear hWe
 go_enter Tryz.func123, Tryz.ntmps123
 go_wp2_with fail
 rw [HE.out]
 go_wp2_with fail
 refine (HCG.out W (keepRd hB0 HD.out)).mono ?_
 rintro e w1 ⟨v1, L, rfl, ho, hch, hlL, hb1⟩
 have k0 := keepCell hb1 c0
 have hB1 := keepBelow hB0 hb1
 obtain ⟨p1, n1, rfl, hfx⟩ := ho.form
 have HF := Lib.hid hfx
 have HCH := Lib.hid hch
 clear c0 c1 ho hfx hb1 hch
 go_wp2_with fail
 refine (HMOD.out _).mono ?_
 rintro e w2 ⟨rfl, hb2⟩
 have m0 := keepCell hb2 k0
 have hB2 := keepBelow hB1 hb2
 have HF2 : Hid (∀ i, i < L.length → ∃ g, p1 = some ⟨g, 0, none⟩ ∧ w2.cell? ⟨g, i, none⟩ = some (.int .i64 (L.getD i 0))) := by
  intro i hi
  obtain ⟨g, e1, _, e2⟩ := HF.out i hi
  exact ⟨g, e1, keepCell hb2 e2⟩
 clear k0 hb2
 go_wp2_with fail
 go_loopw [8, 9, 10] (fun ub uo vi wr => ∃ (k : Nat) (best : Int) (b : Bool), ub = .int .i64 best ∧ uo = .bool b ∧ vi = .int .i64 k ∧ k ≤ L.length ∧ (b = true → x < best ∧ best ≤ x + P) ∧ Hid (∀ j, j < k → b = true ∧ best ≤ candA P x (L.getD j 0)) ∧ Below w2.heap.size w2 wr) (fun _ _ vi _ => L.length - (intOf vi).toNat)
 case atStart => exact ⟨0, 0, false, rfl, rfl, rfl, Nat.zero_le _, (fun hh => by cases hh), fun j hj => by omega, Below.refl _ _⟩
 case round =>
  obtain ⟨k, best, b, rfl, rfl, rfl, hk, hbb, HJ, hB⟩ := hrel
  have q0 := keepCell hB m0
  have hBw := keepBelow hB2 hB
  by_cases hlt : k < L.length
  ·obtain ⟨g, rfl, d⟩ := HF2.out k hlt
   have hab := HCH.out.bd _ (getD_mem hlt)
   obtain ⟨z, hz⟩ : ∃ z, L.getD k 0 = z := ⟨_, rfl⟩
   rw [hz] at d hab
   have hcb := candA_bd (x := x) hP1 hab.1 hab.2
   have HZ := Lib.hid hz
   have d1 := keepCell hB d
   have hz0 : 0 ≤ z := hab.1
   have hz1 : z < P := hab.2
   clear hz d hab
   by_cases hc : x - r + z ≤ x
   ·have HCA : Hid (candA P x z = x - r + z + P) := by unfold Hid candA; rw [HXR.out, if_pos hc]
    rw [HCA.out] at hcb
    have t1 : decide (x - r + z ≤ x) = true := by simpa using hc
    clear hc
    cases b with
    | false =>
     have HJ2 : Hid (∀ j, j < k + 1 → true = true ∧ (x - r + z + P) ≤ candA P x (L.getD j 0)) := fun j hj => by
      rcases Nat.lt_succ_iff_lt_or_eq.1 hj with h | rfl
      ·have := HJ.out j h
       exact ⟨rfl, absurd this.1 (by simp)⟩
      ·rw [HZ.out, HCA.out]
       exact ⟨rfl, Int.le_refl _⟩
     go_wp2
     go_roundw
     case rel => exact ⟨k + 1, x - r + z + P, true, rfl, rfl, by go_num, by omega, fun _ => ⟨by omega, by omega⟩, HJ2, hB⟩
     case measure => simp [intOf]; omega
    | true =>
     have hbb := hbb rfl
     by_cases hb : x - r + z + P < best
     ·have t2 : decide (x - r + z + P < best) = true := by simpa using hb
      have HJ2 : Hid (∀ j, j < k + 1 → true = true ∧ (x - r + z + P) ≤ candA P x (L.getD j 0)) := fun j hj => by
       rcases Nat.lt_succ_iff_lt_or_eq.1 hj with h | rfl
       ·have := HJ.out j h
        exact ⟨rfl, by have := this.2; omega⟩
       ·rw [HZ.out, HCA.out]
        exact ⟨rfl, Int.le_refl _⟩
      go_wp2
      go_roundw
      case rel => exact ⟨k + 1, x - r + z + P, true, rfl, rfl, by go_num, by omega, fun _ => ⟨by omega, by omega⟩, HJ2, hB⟩
      case measure => simp [intOf]; omega
     ·have t2 : decide (x - r + z + P < best) = false := by simpa using hb
      have HJ2 : Hid (∀ j, j < k + 1 → true = true ∧ best ≤ candA P x (L.getD j 0)) := fun j hj => by
       rcases Nat.lt_succ_iff_lt_or_eq.1 hj with h | rfl
       ·have := HJ.out j h
        exact ⟨rfl, this.2⟩
       ·rw [HZ.out, HCA.out]
        exact ⟨rfl, by omega⟩
      go_wp2
      go_roundw
      case rel => exact ⟨k + 1, best, true, rfl, rfl, by go_num, by omega, fun _ => hbb, HJ2, hB⟩
      case measure => simp [intOf]; omega
   ·have HCA : Hid (candA P x z = x - r + z) := by unfold Hid candA; rw [HXR.out, if_neg hc]
    rw [HCA.out] at hcb
    have t1 : decide (x - r + z ≤ x) = false := by simpa using hc
    clear hc
    cases b with
    | false =>
     have HJ2 : Hid (∀ j, j < k + 1 → true = true ∧ (x - r + z) ≤ candA P x (L.getD j 0)) := fun j hj => by
      rcases Nat.lt_succ_iff_lt_or_eq.1 hj with h | rfl
      ·have := HJ.out j h
       exact ⟨rfl, absurd this.1 (by simp)⟩
      ·rw [HZ.out, HCA.out]
       exact ⟨rfl, Int.le_refl _⟩
     go_wp2
     go_roundw
     case rel => exact ⟨k + 1, x - r + z, true, rfl, rfl, by go_num, by omega, fun _ => ⟨by omega, by omega⟩, HJ2, hB⟩
     case measure => simp [intOf]; omega
    | true =>
     have hbb := hbb rfl
     by_cases hb : x - r + z < best
     ·have t2 : decide (x - r + z < best) = true := by simpa using hb
      have HJ2 : Hid (∀ j, j < k + 1 → true = true ∧ (x - r + z) ≤ candA P x (L.getD j 0)) := fun j hj => by
       rcases Nat.lt_succ_iff_lt_or_eq.1 hj with h | rfl
       ·have := HJ.out j h
        exact ⟨rfl, by have := this.2; omega⟩
       ·rw [HZ.out, HCA.out]
        exact ⟨rfl, Int.le_refl _⟩
      go_wp2
      go_roundw
      case rel => exact ⟨k + 1, x - r + z, true, rfl, rfl, by go_num, by omega, fun _ => ⟨by omega, by omega⟩, HJ2, hB⟩
      case measure => simp [intOf]; omega
     ·have t2 : decide (x - r + z < best) = false := by simpa using hb
      have HJ2 : Hid (∀ j, j < k + 1 → true = true ∧ best ≤ candA P x (L.getD j 0)) := fun j hj => by
       rcases Nat.lt_succ_iff_lt_or_eq.1 hj with h | rfl
       ·have := HJ.out j h
        exact ⟨rfl, this.2⟩
       ·rw [HZ.out, HCA.out]
        exact ⟨rfl, by omega⟩
      go_wp2
      go_roundw
      case rel => exact ⟨k + 1, best, true, rfl, rfl, by go_num, by omega, fun _ => hbb, HJ2, hB⟩
      case measure => simp [intOf]; omega
  ·have HN : Hid (NoA P l x b best) := NoA.mk hP1 HCH.out b hbb fun j hj => HJ.out j (by omega)
   clear hbb
   go_wp2
   go_ret2
   exact ⟨best, b, rfl, HN.out, hBw⟩

end Go.Proofs.YtlbjfbpejomkmaaGreat
namespace Go.Proofs.YtlbjfbpejomkmaaGreat
open Go.RowKit Wk

def L14Post (l : List Sp) (p : Per) (f t : Int) (w : World) (e : Ending) (w' : World) : Prop := ∃ c b, e = .returned (.tuple #[.int .i64 c, .bool b]) ∧ (b = true → LastD (dLP l p) f t (some (c - 1))) ∧ (b = false → c = 0 ∧ LastD (dLP l p) f t none) ∧ Below w.heap.size w w'
def F14Post (l : List Sp) (p : Per) (f t : Int) (w : World) (e : Ending) (w' : World) : Prop := ∃ c b, e = .returned (.tuple #[.int .i64 c, .bool b]) ∧ (b = true → FirstD (dLP l p) f t (some c)) ∧ (b = false → c = 0 ∧ FirstD (dLP l p) f t none) ∧ Below w.heap.size w w'

set_option maxRecDepth 100000 in
set_option maxHeartbeats 8000000 in
theorem last14_any (P f t : Int) (v vk : Value) (l m : List Sp) (w : World) (h : RdS w v l) (hm : RdS w vk m) (hcl : Canon l) (hg : GoodP (P, m)) (hP2 : P ≤ 12622780800) (hml : m.length ≤ 2000) (hf : -4398046511104 ≤ f) (hft : f ≤ t) (ht : t ≤ 4398046511104) :
  Calls Tryz.prog 148 #[v, .agg #[.int .i64 P, vk], .int .i64 f, .int .i64 t] w (L14Post l (P, m) f t w) := by
 have hP1 : 1 ≤ P := hg.pos
 have HI : Hid (∀ z W, RdS W v l → Calls Tryz.prog 82 #[v, .int .i64 z] W fun e w' => e = .returned (.bool (inL l z)) ∧ Below W.heap.size W w') := fun z W hr => in12_any v l z W hr
 have HH : Hid (∀ z W, RdS W vk m → -1152921504606846976 ≤ z → z ≤ 1152921504606846976 → Calls Tryz.prog 81 #[.agg #[.int .i64 P, vk], .int .i64 z] W fun e w' => e = .returned (.bool (hasP (P, m) z)) ∧ Below W.heap.size W w') := fun z W hr h1 h2 => has13_any P z _ m W hr hP1 hP2 h1 h2
 have HS : Hid (∀ z W, RdS W vk m → -1152921504606846976 ≤ z → z ≤ 1152921504606846976 → Calls Tryz.prog 184 #[.agg #[.int .i64 P, vk], .int .i64 z] W (BfPost P m z W)) := fun z W hr h1 h2 => before14_any P z _ m W hr hg hP2 hml h1 h2
 have HD := Lib.hid h
 have HM := Lib.hid hm
 have HCA := Lib.hid hcl
 clear hg hcl
 obtain ⟨a, c, rfl, hl, hc⟩ := h
 obtain ⟨am, cm, rfl, _, _⟩ := hm
 obtain ⟨W, hWe⟩ : ∃ W, w.alloc (.cells #[.int .i64 P, .slice am m.length cm] 52) = W := ⟨_, rfl⟩
 have hB0 : Below w.heap.size w W := by rw [← hWe]; exact (Below.refl _ _).alloc (Nat.le_refl _) _
 have c0 : W.cell? ⟨w.heap.size, 0, none⟩ = some (.int .i64 P) := by rw [← hWe]; simp [go_sem]
 have c1 : W.cell? ⟨w.heap.size, 1, none⟩ = some (.slice am m.length cm) := by rw [← hWe]; simp [go_sem]
 have HE := Lib.hid hWe
 have HC := Lib.hid hc
 clear hWe hc
 go_enter Tryz.func148, Tryz.ntmps148
 go_wp2_with fail
 rw [HE.out]
 go_wp2_with fail
 go_loopw [10] (fun ux wr => ∃ x : Int, ux = .int .i64 x ∧ f ≤ x ∧ x ≤ t ∧ Hid (∀ z, x ≤ z → z < t → dLP l (P, m) z = false) ∧ Below W.heap.size W wr) (fun ux _ => (intOf ux - f).toNat)
 case atStart => exact ⟨t, rfl, by omega, by omega, fun z h1 h2 => by omega, Below.refl _ _⟩
 case round =>
  obtain ⟨x, rfl, hx1, hx2, HX, hB⟩ := hrel
  have k0 := keepCell hB c0
  have k1 := keepCell hB c1
  have hBw := keepBelow hB0 hB
  by_cases hlt : f < x
  ·have e0 := ext_cell k0
   have e1 := ext_cell k1
   have HR1 := Lib.hid (keepRd hBw HD.out)
   have HR2 := Lib.hid (keepRd hBw HM.out)
   cases hd : (inL l (x - 1) == hasP (P, m) (x - 1)) with
   | false =>
    have HDD : Hid (dLP l (P, m) (x - 1) = true) := by unfold Hid dLP; simpa using hd
    have HFIN : Hid (LastD (dLP l (P, m)) f t (some (x - 1))) := ⟨by omega, by omega, HDD.out, fun z h1 h2 => HX.out z (by omega) (by omega)⟩
    go_wp2_with fail
    refine wp_region_ext (by kernel_rfl) (by kernel_rfl) ?_
    iterate 9 (go_big_quiet_step ((first | (go_at_call 82; refine calls_ext (HI.out _ _ (ext_rd HR1.out _))) | (go_at_call 81; refine calls_ext (HH.out _ _ (ext_rd HR2.out _) (by omega) (by omega))))))
    refine wpQuiet_nil ?_
    intro w2 hb2
    have hBn := keepBelow hBw hb2
    go_wp2
    go_ret2
    exact ⟨_, true, rfl, fun _ => HFIN.out, (fun hh => by cases hh), hBn⟩
   | true =>
    have HDD : Hid (dLP l (P, m) (x - 1) = false) := by unfold Hid dLP; simpa using hd
    go_wp2_with fail
    refine wp_region_ext (by kernel_rfl) (by kernel_rfl) ?_
    iterate 9 (go_big_quiet_step ((first | (go_at_call 82; refine calls_ext (HI.out _ _ (ext_rd HR1.out _))) | (go_at_call 81; refine calls_ext (HH.out _ _ (ext_rd HR2.out _) (by omega) (by omega))))))
    refine wpQuiet_nil ?_
    intro w2 hb2
    have hB2 := keepBelow hB hb2
    have m0 := keepCell hb2 k0
    have m1 := keepCell hb2 k1
    clear e0 e1 k0 k1 hb2 hd
    go_wp2_with fail
    go_loopw [11, 12] (fun un vi w3 => ∃ (i : Nat) (nx : Int), un = .int .i64 nx ∧ vi = .int .i64 i ∧ i ≤ l.length ∧ f ≤ nx ∧ nx < x ∧ Hid (∀ j, j < i → ((l.getD j (0, 0)).1 < x → (l.getD j (0, 0)).1 ≤ nx) ∧ ((l.getD j (0, 0)).2 < x → (l.getD j (0, 0)).2 ≤ nx)) ∧ Below w2.heap.size w2 w3) (fun _ vi _ => l.length - (intOf vi).toNat)
    case atStart => exact ⟨0, f, rfl, rfl, Nat.zero_le _, by omega, by omega, fun j hj => by omega, Below.refl _ _⟩
    case round =>
     obtain ⟨i, nx, rfl, rfl, hi, hn1, hn2, HJ, hB3⟩ := hrel
     have hBw3 := keepBelow (keepBelow hB0 hB2) hB3
     have n0 := keepCell hB3 m0
     have n1 := keepCell hB3 m1
     by_cases hli : i < l.length
     ·obtain ⟨bb, o, y1, y2, rfl, hbw, HXY, d1, d2⟩ := rd_at HC.out hBw3 hli
      have hli' : (i : Int) < (l.length : Int) := by omega
      clear n0 n1
      have HJ2 : Hid (∀ n, nx ≤ n → (y1 < x → y1 ≤ n) → (y2 < x → y2 ≤ n) → Hid (∀ j, j < i + 1 → ((l.getD j (0, 0)).1 < x → (l.getD j (0, 0)).1 ≤ n) ∧ ((l.getD j (0, 0)).2 < x → (l.getD j (0, 0)).2 ≤ n))) := fun n a1 a2 a3 j hj => by
       rcases Nat.lt_succ_iff_lt_or_eq.1 hj with h | rfl
       ·have := HJ.out j h
        exact ⟨fun h1 => by have := this.1 h1; omega, fun h1 => by have := this.2 h1; omega⟩
       ·rw [HXY.out]
        exact ⟨fun h1 => by simp only at h1 ⊢; exact a2 h1, fun h1 => by simp only at h1 ⊢; exact a3 h1⟩
      by_cases t1 : y1 < x
      ·have g1 : decide (y1 < x) = true := by simpa using t1
       by_cases t3 : y2 < x
       ·have g3 : decide (y2 < x) = true := by simpa using t3
        go_wp2
        go_roundw
        case rel => exact ⟨i + 1, _, rfl, by go_num, by omega, by omega, by omega, HJ2.out _ (by omega) (fun _ => by omega) (fun _ => by omega), hB3⟩
        case measure => simp [intOf]; omega
       ·have g3 : decide (y2 < x) = false := by simpa using t3
        go_wp2
        go_roundw
        case rel => exact ⟨i + 1, _, rfl, by go_num, by omega, by omega, by omega, HJ2.out _ (by omega) (fun _ => by omega) (fun _ => by omega), hB3⟩
        case measure => simp [intOf]; omega
      ·have g1 : decide (y1 < x) = false := by simpa using t1
       by_cases t3 : y2 < x
       ·have g3 : decide (y2 < x) = true := by simpa using t3
        go_wp2
        go_roundw
        case rel => exact ⟨i + 1, _, rfl, by go_num, by omega, by omega, by omega, HJ2.out _ (by omega) (fun _ => by omega) (fun _ => by omega), hB3⟩
        case measure => simp [intOf]; omega
       ·have g3 : decide (y2 < x) = false := by simpa using t3
        go_wp2
        go_roundw
        case rel => exact ⟨i + 1, _, rfl, by go_num, by omega, by omega, by omega, HJ2.out _ (by omega) (fun _ => by omega) (fun _ => by omega), hB3⟩
        case measure => simp [intOf]; omega
     ·have HEN : Hid (∀ e ∈ endsOf l, e < x → e ≤ nx) := ends_idx (Q := fun e => e < x → e ≤ nx) fun j hj => HJ.out j (by omega)
      have HSS := Lib.hid (HS.out x _ (keepRd hBw3 HM.out) (by omega) (by omega))
      go_wp2_with fail
      refine HSS.out.mono ?_
      rintro e w4 ⟨c4, b4, rfl, hno, hb4⟩
      have hB4 := keepBelow hB2 (keepBelow hB3 hb4)
      clear n0 n1
      have fin : ∀ n, n < x → (∀ e ∈ endsOf l, e < x → e ≤ n) → (∀ z, z < x → n < z → hasP (P, m) (z - 1) = hasP (P, m) z) → Hid (∀ z, n ≤ z → z < t → dLP l (P, m) z = false) := fun n ha hb hc z h1 h2 => by
       by_cases hz : x ≤ z
       ·exact HX.out z (by omega) (by omega)
       ·exact last_step HCA.out ha hb hc HDD.out z (by omega) (by omega)
      have FIN := Lib.hid fin
      clear fin
      cases b4 with
      | false =>
       have HQ := FIN.out nx hn2 HEN.out fun z h1 h2 => hno.2 z h1 (fun hh => by cases hh)
       clear hno
       go_wp2
       go_roundw
       case rel => exact ⟨nx, rfl, by omega, by omega, HQ, hB4⟩
       case measure => simp [intOf]; omega
      | true =>
       have hcb := hno.1 rfl
       have HQ : Hid (∀ n, max nx c4 = n → Hid (∀ z, n ≤ z → z < t → dLP l (P, m) z = false)) := fun n hn => FIN.out n (by omega) (fun e he hh => by have := HEN.out e he hh; omega) fun z h1 h2 => hno.2 z h1 (fun _ => by omega)
       clear hno
       go_wp2
       go_roundw
       case rel => exact ⟨_, rfl, by omega, by omega, HQ.out _ rfl, hB4⟩
       case measure => simp [intOf]; omega
  ·have HFIN : Hid (LastD (dLP l (P, m)) f t none) := fun z h1 h2 => HX.out z (by omega) (by omega)
   go_wp2
   go_ret2
   exact ⟨0, false, rfl, (fun hh => by cases hh), fun _ => ⟨rfl, HFIN.out⟩, hBw⟩

set_option maxRecDepth 100000 in
set_option maxHeartbeats 8000000 in
theorem first14_any (P f t : Int) (v vk : Value) (l m : List Sp) (w : World) (h : RdS w v l) (hm : RdS w vk m) (hcl : Canon l) (hg : GoodP (P, m)) (hP2 : P ≤ 12622780800) (hml : m.length ≤ 2000) (hf : -4398046511104 ≤ f) (hft : f ≤ t) (ht : t ≤ 4398046511104) :
  Calls Tryz.prog 149 #[v, .agg #[.int .i64 P, vk], .int .i64 f, .int .i64 t] w (F14Post l (P, m) f t w) := by
 have hP1 : 1 ≤ P := hg.pos
 have HI : Hid (∀ z W, RdS W v l → Calls Tryz.prog 82 #[v, .int .i64 z] W fun e w' => e = .returned (.bool (inL l z)) ∧ Below W.heap.size W w') := fun z W hr => in12_any v l z W hr
 have HH : Hid (∀ z W, RdS W vk m → -1152921504606846976 ≤ z → z ≤ 1152921504606846976 → Calls Tryz.prog 81 #[.agg #[.int .i64 P, vk], .int .i64 z] W fun e w' => e = .returned (.bool (hasP (P, m) z)) ∧ Below W.heap.size W w') := fun z W hr h1 h2 => has13_any P z _ m W hr hP1 hP2 h1 h2
 have HS : Hid (∀ z W, RdS W vk m → -1152921504606846976 ≤ z → z ≤ 1152921504606846976 → Calls Tryz.prog 123 #[.agg #[.int .i64 P, vk], .int .i64 z] W (AfPost P m z W)) := fun z W hr h1 h2 => after14_any P z _ m W hr hg hP2 hml h1 h2
 have HD := Lib.hid h
 have HM := Lib.hid hm
 have HCA := Lib.hid hcl
 clear hg hcl
 obtain ⟨a, c, rfl, hl, hc⟩ := h
 obtain ⟨am, cm, rfl, _, _⟩ := hm
 obtain ⟨W, hWe⟩ : ∃ W, w.alloc (.cells #[.int .i64 P, .slice am m.length cm] 52) = W := ⟨_, rfl⟩
 have hB0 : Below w.heap.size w W := by rw [← hWe]; exact (Below.refl _ _).alloc (Nat.le_refl _) _
 have c0 : W.cell? ⟨w.heap.size, 0, none⟩ = some (.int .i64 P) := by rw [← hWe]; simp [go_sem]
 have c1 : W.cell? ⟨w.heap.size, 1, none⟩ = some (.slice am m.length cm) := by rw [← hWe]; simp [go_sem]
 have HE := Lib.hid hWe
 have HC := Lib.hid hc
 clear hWe hc
 go_enter Tryz.func149, Tryz.ntmps149
 go_wp2_with fail
 rw [HE.out]
 go_wp2_with fail
 go_loopw [10] (fun ux wr => ∃ x : Int, ux = .int .i64 x ∧ f ≤ x ∧ x ≤ t ∧ Hid (∀ z, f ≤ z → z < x → dLP l (P, m) z = false) ∧ Below W.heap.size W wr) (fun ux _ => (t - intOf ux).toNat)
 case atStart => exact ⟨f, rfl, by omega, by omega, fun z h1 h2 => by omega, Below.refl _ _⟩
 case round =>
  obtain ⟨x, rfl, hx1, hx2, HX, hB⟩ := hrel
  have k0 := keepCell hB c0
  have k1 := keepCell hB c1
  have hBw := keepBelow hB0 hB
  by_cases hlt : x < t
  ·have e0 := ext_cell k0
   have e1 := ext_cell k1
   have HR1 := Lib.hid (keepRd hBw HD.out)
   have HR2 := Lib.hid (keepRd hBw HM.out)
   cases hd : (inL l (x) == hasP (P, m) (x)) with
   | false =>
    have HDD : Hid (dLP l (P, m) (x) = true) := by unfold Hid dLP; simpa using hd
    have HFIN : Hid (FirstD (dLP l (P, m)) f t (some x)) := ⟨by omega, by omega, HDD.out, fun z h1 h2 => HX.out z (by omega) (by omega)⟩
    go_wp2_with fail
    refine wp_region_ext (by kernel_rfl) (by kernel_rfl) ?_
    iterate 7 (go_big_quiet_step ((first | (go_at_call 82; refine calls_ext (HI.out _ _ (ext_rd HR1.out _))) | (go_at_call 81; refine calls_ext (HH.out _ _ (ext_rd HR2.out _) (by omega) (by omega))))))
    refine wpQuiet_nil ?_
    intro w2 hb2
    have hBn := keepBelow hBw hb2
    go_wp2
    go_ret2
    exact ⟨_, true, rfl, fun _ => HFIN.out, (fun hh => by cases hh), hBn⟩
   | true =>
    have HDD : Hid (dLP l (P, m) (x) = false) := by unfold Hid dLP; simpa using hd
    go_wp2_with fail
    refine wp_region_ext (by kernel_rfl) (by kernel_rfl) ?_
    iterate 7 (go_big_quiet_step ((first | (go_at_call 82; refine calls_ext (HI.out _ _ (ext_rd HR1.out _))) | (go_at_call 81; refine calls_ext (HH.out _ _ (ext_rd HR2.out _) (by omega) (by omega))))))
    refine wpQuiet_nil ?_
    intro w2 hb2
    have hB2 := keepBelow hB hb2
    have m0 := keepCell hb2 k0
    have m1 := keepCell hb2 k1
    clear e0 e1 k0 k1 hb2 hd
    go_wp2_with fail
    go_loopw [11, 12] (fun un vi w3 => ∃ (i : Nat) (nx : Int), un = .int .i64 nx ∧ vi = .int .i64 i ∧ i ≤ l.length ∧ x < nx ∧ nx ≤ t ∧ Hid (∀ j, j < i → (x < (l.getD j (0, 0)).1 → nx ≤ (l.getD j (0, 0)).1) ∧ (x < (l.getD j (0, 0)).2 → nx ≤ (l.getD j (0, 0)).2)) ∧ Below w2.heap.size w2 w3) (fun _ vi _ => l.length - (intOf vi).toNat)
    case atStart => exact ⟨0, t, rfl, rfl, Nat.zero_le _, by omega, by omega, fun j hj => by omega, Below.refl _ _⟩
    case round =>
     obtain ⟨i, nx, rfl, rfl, hi, hn1, hn2, HJ, hB3⟩ := hrel
     have hBw3 := keepBelow (keepBelow hB0 hB2) hB3
     have n0 := keepCell hB3 m0
     have n1 := keepCell hB3 m1
     by_cases hli : i < l.length
     ·obtain ⟨bb, o, y1, y2, rfl, hbw, HXY, d1, d2⟩ := rd_at HC.out hBw3 hli
      have hli' : (i : Int) < (l.length : Int) := by omega
      clear n0 n1
      have HJ2 : Hid (∀ n, n ≤ nx → (x < y1 → n ≤ y1) → (x < y2 → n ≤ y2) → Hid (∀ j, j < i + 1 → (x < (l.getD j (0, 0)).1 → n ≤ (l.getD j (0, 0)).1) ∧ (x < (l.getD j (0, 0)).2 → n ≤ (l.getD j (0, 0)).2))) := fun n a1 a2 a3 j hj => by
       rcases Nat.lt_succ_iff_lt_or_eq.1 hj with h | rfl
       ·have := HJ.out j h
        exact ⟨fun h1 => by have := this.1 h1; omega, fun h1 => by have := this.2 h1; omega⟩
       ·rw [HXY.out]
        exact ⟨fun h1 => by simp only at h1 ⊢; exact a2 h1, fun h1 => by simp only at h1 ⊢; exact a3 h1⟩
      by_cases t1 : x < y1
      ·have g1 : decide (x < y1) = true := by simpa using t1
       by_cases t3 : x < y2
       ·have g3 : decide (x < y2) = true := by simpa using t3
        go_wp2
        go_roundw
        case rel => exact ⟨i + 1, _, rfl, by go_num, by omega, by omega, by omega, HJ2.out _ (by omega) (fun _ => by omega) (fun _ => by omega), hB3⟩
        case measure => simp [intOf]; omega
       ·have g3 : decide (x < y2) = false := by simpa using t3
        go_wp2
        go_roundw
        case rel => exact ⟨i + 1, _, rfl, by go_num, by omega, by omega, by omega, HJ2.out _ (by omega) (fun _ => by omega) (fun _ => by omega), hB3⟩
        case measure => simp [intOf]; omega
      ·have g1 : decide (x < y1) = false := by simpa using t1
       by_cases t3 : x < y2
       ·have g3 : decide (x < y2) = true := by simpa using t3
        go_wp2
        go_roundw
        case rel => exact ⟨i + 1, _, rfl, by go_num, by omega, by omega, by omega, HJ2.out _ (by omega) (fun _ => by omega) (fun _ => by omega), hB3⟩
        case measure => simp [intOf]; omega
       ·have g3 : decide (x < y2) = false := by simpa using t3
        go_wp2
        go_roundw
        case rel => exact ⟨i + 1, _, rfl, by go_num, by omega, by omega, by omega, HJ2.out _ (by omega) (fun _ => by omega) (fun _ => by omega), hB3⟩
        case measure => simp [intOf]; omega
     ·have HEN : Hid (∀ e ∈ endsOf l, x < e → nx ≤ e) := ends_idx (Q := fun e => x < e → nx ≤ e) fun j hj => HJ.out j (by omega)
      have HSS := Lib.hid (HS.out x _ (keepRd hBw3 HM.out) (by omega) (by omega))
      go_wp2_with fail
      refine HSS.out.mono ?_
      rintro e w4 ⟨c4, b4, rfl, hno, hb4⟩
      have hB4 := keepBelow hB2 (keepBelow hB3 hb4)
      clear n0 n1
      have fin : ∀ n, x < n → (∀ e ∈ endsOf l, x < e → n ≤ e) → (∀ z, x < z → z < n → hasP (P, m) (z - 1) = hasP (P, m) z) → Hid (∀ z, f ≤ z → z < n → dLP l (P, m) z = false) := fun n ha hb hc z h1 h2 => by
       by_cases hz : z < x
       ·exact HX.out z (by omega) (by omega)
       ·exact first_step HCA.out ha hb hc HDD.out z (by omega) (by omega)
      have FIN := Lib.hid fin
      clear fin
      cases b4 with
      | false =>
       have HQ := FIN.out nx hn1 HEN.out fun z h1 h2 => hno.2 z h1 (fun hh => by cases hh)
       clear hno
       go_wp2
       go_roundw
       case rel => exact ⟨nx, rfl, by omega, by omega, HQ, hB4⟩
       case measure => simp [intOf]; omega
      | true =>
       have hcb := hno.1 rfl
       have HQ : Hid (∀ n, min nx c4 = n → Hid (∀ z, f ≤ z → z < n → dLP l (P, m) z = false)) := fun n hn => FIN.out n (by omega) (fun e he hh => by have := HEN.out e he hh; omega) fun z h1 h2 => hno.2 z h1 (fun _ => by omega)
       clear hno
       go_wp2
       go_roundw
       case rel => exact ⟨_, rfl, by omega, by omega, HQ.out _ rfl, hB4⟩
       case measure => simp [intOf]; omega
  ·have HFIN : Hid (FirstD (dLP l (P, m)) f t none) := fun z h1 h2 => HX.out z (by omega) (by omega)
   go_wp2
   go_ret2
   exact ⟨0, false, rfl, (fun hh => by cases hh), fun _ => ⟨rfl, HFIN.out⟩, hBw⟩

end Go.Proofs.YtlbjfbpejomkmaaGreat
namespace Go.Proofs.YtlbjfbpejomkmaaGreat
open Go.RowKit Wk

def Cp14Post (l : List Sp) (f t : Int) (w : World) (e : Ending) (w' : World) : Prop := ∃ v, e = .returned v ∧ OwnS w' w.heap.size v (clipM l f t) ∧ Below w.heap.size w w'
theorem clip_succ {l : List Sp} {f t x y : Int} {k : Nat} (h : l.getD k (0, 0) = (x, y)) (hk : k < l.length) : clipM (l.take (k + 1)) f t = clipM (l.take k) f t ++ (if max x f < min y t then [(max x f, min y t)] else []) := by
 rw [getD_take_succ h hk, clip_snoc]

set_option maxRecDepth 100000 in
set_option maxHeartbeats 4000000 in
theorem clip14_any (v : Value) (l : List Sp) (f t : Int) (w : World) (h : RdS w v l) (hll : l.length ≤ 100000000000) :
  Calls Tryz.prog 152 #[v, .int .i64 f, .int .i64 t] w (Cp14Post l f t w) := by
 obtain ⟨a, ca, rfl, hl, hc⟩ := h
 have HC := Lib.hid hc
 clear hc
 go_enter Tryz.func152, Tryz.ntmps152
 go_wp2_with fail
 go_loopw [7, 8] (fun u vi wr => ∃ k : Nat, vi = .int .i64 k ∧ k ≤ l.length ∧ OwnS wr w.heap.size u (clipM (l.take k) f t) ∧ Below w.heap.size w wr) (fun _ vi _ => l.length - (intOf vi).toNat)
 case atStart => exact ⟨0, rfl, Nat.zero_le _, OwnS.nil _ _, Below.refl _ _⟩
 case round =>
  obtain ⟨k, rfl, hk, ho, hB⟩ := hrel
  by_cases hlt : k < l.length
  ·obtain ⟨bb, o, x, y, rfl, hbw, HXY, d1, d2⟩ := rd_at HC.out hB hlt
   have HS := Lib.hid (clip_succ (f := f) (t := t) HXY.out hlt)
   have hlen := clip_len (l.take k) f t
   have hlen2 := List.length_take_le k l
   obtain ⟨L, hL⟩ : ∃ L, clipM (l.take k) f t = L := ⟨_, rfl⟩
   rw [hL] at ho hlen HS
   have n1 := World.new_ne wr _ d1
   have n2 := World.new_ne wr _ d2
   have hlt' : (k : Int) < (l.length : Int) := by omega
   obtain ⟨X, hX⟩ : ∃ X, max x f = X := ⟨_, rfl⟩
   obtain ⟨Y, hY⟩ : ∃ Y, min y t = Y := ⟨_, rfl⟩
   rw [hX, hY] at HS
   have HHX := Lib.hid hX
   have HHY := Lib.hid hY
   clear hL hX hY
   go_upto_region 5 with fail
   go_cut [9] from 10 to 39 (fun p wx => p = .pointer (some ⟨wr.heap.size, 0, none⟩) ∧ wx.cell? ⟨wr.heap.size, 0, none⟩ = some (.int .i64 X) ∧ wx.cell? ⟨wr.heap.size, 1, none⟩ = some (.int .i64 Y) ∧ Below wr.heap.size wr wx ∧ wr.heap.size < wx.heap.size)
   case first =>
    go_region_held3 (fun w' => w'.cell? ⟨bb, o + k * 2, none⟩ = some (.int .i64 x) ∧ w'.cell? ⟨bb, o + k * 2 + 1, none⟩ = some (.int .i64 y))
     (go_keep)
     (first | fail)
    all_goals (go_wp2_with fail; go_meet; case rel => exact ⟨rfl, by rw [← HHX.out]; simp [go_sem], by rw [← HHY.out]; simp [go_sem], ((Below.refl _ wr).alloc (Nat.le_refl _) _).drew, by simp⟩)
   case rest =>
   obtain ⟨rfl, p0, p1, hbc, hsc⟩ := hcut
   have hBn := keepBelow hB hbc
   have ho5 := ho.below hbc
   clear n1 n2 d1 d2 ho hbc
   by_cases hxy : X < Y
   ·have t1 : decide (X < Y) = true := by simpa using hxy
    rw [if_pos hxy] at HS
    clear hxy
    go_wp2_with (at_builtin; refine wpList_app_span rfl (.tmp 36) (.tmp 38) rfl rfl ho5 hBn rfl rfl (by omega) ?_; intro v1 w6 o1 b1 k1 z1'; clear k1)
    go_roundw
    case rel => exact ⟨k + 1, by go_num, by omega, by rw [HS.out]; exact o1, b1⟩
    case measure => simp [intOf]; omega
   ·have t1 : decide (X < Y) = false := by simpa using hxy
    rw [if_neg hxy, List.append_nil] at HS
    clear hxy
    go_wp2
    go_roundw
    case rel => exact ⟨k + 1, by go_num, by omega, by rw [HS.out]; exact ho5, hBn⟩
    case measure => simp [intOf]; omega
  ·have e : l.take k = l := List.take_of_length_le (by omega)
   rw [e] at ho
   go_wp2
   go_ret
   exact ⟨_, rfl, ho, hB⟩
end Go.Proofs.YtlbjfbpejomkmaaGreat
namespace Go.Proofs.YtlbjfbpejomkmaaGreat
open Go.RowKit Wk

def pairQ (P : Int) (l : List Sp) (Q : Int) (k : List Sp) : Int × Int := if (P == Q && decide (l = k)) = true then (P, 0) else pairR P l.length Q k.length

set_option maxRecDepth 100000 in
set_option maxHeartbeats 2000000 in
theorem pair14_any (P Q : Int) (v k : Value) (l m : List Sp) (w : World) (h1 : RdS w v l) (h2 : RdS w k m) (hP : 1 ≤ P) (hP2 : P ≤ 12622780800) (hQ : 1 ≤ Q) (hQ2 : Q ≤ 12622780800) (hl : l.length ≤ 2000) (hm : m.length ≤ 2000) :
  Calls Tryz.prog 147 #[.agg #[.int .i64 P, v], .agg #[.int .i64 Q, k]] w fun e w' => e = .returned (.tuple #[.int .i64 (pairQ P l Q m).1, .int .i64 (pairQ P l Q m).2]) ∧ Below w.heap.size w w' := by
 have HEQ := Lib.hid (fun W a b => equal13_any P Q v k l m W a b)
 have HPA := Lib.hid (fun W a b => pair13_any P Q v k l m W a b hP hP2 hQ hQ2 hl hm)
 have HR1 := Lib.hid h1
 have HR2 := Lib.hid h2
 obtain ⟨a1, d1, rfl, _, _⟩ := h1
 obtain ⟨a2, d2, rfl, _, _⟩ := h2
 obtain ⟨W, hWe⟩ : ∃ W, (w.alloc (.cells #[.int .i64 P, .slice a1 l.length d1] 52)).alloc (.cells #[.int .i64 Q, .slice a2 m.length d2] 52) = W := ⟨_, rfl⟩
 have hW : Below w.heap.size w W := by rw [← hWe]; exact ((Below.refl _ _).alloc (Nat.le_refl _) _).alloc (by simp) _
 have c0 : W.cell? ⟨w.heap.size, 0, none⟩ = some (.int .i64 P) := by rw [← hWe]; simp [go_sem]
 have c1 : W.cell? ⟨w.heap.size, 1, none⟩ = some (.slice a1 l.length d1) := by rw [← hWe]; simp [go_sem]
 have c2 : W.cell? ⟨w.heap.size + 1, 0, none⟩ = some (.int .i64 Q) := by rw [← hWe]; simp [go_sem]
 have c3 : W.cell? ⟨w.heap.size + 1, 1, none⟩ = some (.slice a2 m.length d2) := by rw [← hWe]; simp [go_sem]
 have HE := Lib.hid hWe
 clear hWe
 have HEE := Lib.hid (HEQ.out W (keepRd hW HR1.out) (keepRd hW HR2.out))
 cases hq : (P == Q && decide (l = m)) with
 | true =>
  rw [hq] at HEE
  have HF : Hid (pairQ P l Q m = (P, 0)) := by unfold Hid pairQ; rw [if_pos hq]
  rw [HF.out]
  clear hq
  go_enter Tryz.func147, Tryz.ntmps147
  go_wp2_with fail
  rw [HE.out]
  go_wp2_with fail
  refine HEE.out.mono ?_
  rintro e w1 ⟨rfl, hb1⟩
  have hBn := keepBelow hW hb1
  have k0 := keepCell hb1 c0
  go_wp2
  go_ret2
  exact ⟨rfl, hBn⟩
 | false =>
  rw [hq] at HEE
  have HF : Hid (pairQ P l Q m = pairR P l.length Q m.length) := by unfold Hid pairQ; rw [if_neg (by rw [hq]; simp)]
  rw [HF.out]
  obtain ⟨r1, hr1⟩ : ∃ r1, (pairR P l.length Q m.length).1 = r1 := ⟨_, rfl⟩
  obtain ⟨r2, hr2⟩ : ∃ r2, (pairR P l.length Q m.length).2 = r2 := ⟨_, rfl⟩
  rw [hr1, hr2] at HPA ⊢
  clear hq hr1 hr2
  go_enter Tryz.func147, Tryz.ntmps147
  go_wp2_with fail
  rw [HE.out]
  go_wp2_with fail
  refine HEE.out.mono ?_
  rintro e w1 ⟨rfl, hb1⟩
  have hBn := keepBelow hW hb1
  have k0 := keepCell hb1 c0
  have k1 := keepCell hb1 c1
  have k2 := keepCell hb1 c2
  have k3 := keepCell hb1 c3
  go_wp2_with fail
  refine (HPA.out _ (keepRd hBn HR1.out) (keepRd hBn HR2.out)).mono ?_
  rintro e w2 ⟨rfl, hb2⟩
  have hBm := keepBelow hBn hb2
  go_wp2
  go_ret2
  exact ⟨rfl, hBm⟩

def DfPost (P : Int) (l : List Sp) (Q : Int) (k : List Sp) (m : Int) (w : World) (e : Ending) (w' : World) : Prop :=
 ∃ v D, e = .returned v ∧ OwnS w' w.heap.size v D ∧ Canon D ∧ inside m D ∧ (∀ x, 0 ≤ x → x < m → inL D x = (hasP (P, l) x != hasP (Q, k) x)) ∧ D.length ≤ 100000 ∧ Below w.heap.size w w'

set_option maxRecDepth 100000 in
set_option maxHeartbeats 4000000 in
theorem differ14_any (P Q m : Int) (c d : Nat) (va vb : Value) (l k : List Sp) (w : World) (h1 : RdS w va l) (h2 : RdS w vb k) (hg : GoodP (P, l)) (hg2 : GoodP (Q, k)) (hP2 : P ≤ 12622780800) (hQ2 : Q ≤ 12622780800)
  (hm1 : 1 ≤ m) (hm2 : m ≤ 12622780800) (hmc : m = (c : Int) * P) (hmd : m = (d : Int) * Q) (hcl : c * l.length ≤ 2000) (hdl : d * k.length ≤ 2000) :
  Calls Tryz.prog 151 #[.agg #[.int .i64 P, va], .agg #[.int .i64 Q, vb], .int .i64 m] w (DfPost P l Q k m w) := by
 have HS1 := Lib.hid (fun W a => spread_any P m c va l W a hg hP2 hmc hm1 hm2 hcl)
 have HS2 := Lib.hid (fun W a => spread_any Q m d vb k W a hg2 hQ2 hmd hm1 hm2 hdl)
 have HR1 := Lib.hid h1
 have HR2 := Lib.hid h2
 obtain ⟨a1, d1, rfl, _, _⟩ := h1
 obtain ⟨a2, d2, rfl, _, _⟩ := h2
 obtain ⟨W, hWe⟩ : ∃ W, (w.alloc (.cells #[.int .i64 P, .slice a1 l.length d1] 52)).alloc (.cells #[.int .i64 Q, .slice a2 k.length d2] 52) = W := ⟨_, rfl⟩
 have hW : Below w.heap.size w W := by rw [← hWe]; exact ((Below.refl _ _).alloc (Nat.le_refl _) _).alloc (by simp) _
 have c0 : W.cell? ⟨w.heap.size, 0, none⟩ = some (.int .i64 P) := by rw [← hWe]; simp [go_sem]
 have c1 : W.cell? ⟨w.heap.size, 1, none⟩ = some (.slice a1 l.length d1) := by rw [← hWe]; simp [go_sem]
 have c2 : W.cell? ⟨w.heap.size + 1, 0, none⟩ = some (.int .i64 Q) := by rw [← hWe]; simp [go_sem]
 have c3 : W.cell? ⟨w.heap.size + 1, 1, none⟩ = some (.slice a2 k.length d2) := by rw [← hWe]; simp [go_sem]
 have HE := Lib.hid hWe
 clear hWe hmc hmd hcl hdl
 go_enter Tryz.func151, Tryz.ntmps151
 go_wp2_with fail
 rw [HE.out]
 generalize hv1 : Value.slice a1 l.length d1 = v1 at *
 generalize hv2 : Value.slice a2 k.length d2 = v2 at *
 have hr1 := keepRd hW HR1.out
 have hr2 := keepRd hW HR2.out
 go_upto_region 1 with fail
 go_cut [7, 8] from 9 to 21 (fun a b wx => ∃ X Y, RdS wx a X ∧ RdS wx b Y ∧ SprP P l m X ∧ SprP Q k m Y ∧ X.length ≤ 2000 ∧ Y.length ≤ 2000 ∧ Below W.heap.size W wx)
 case first =>
  go_region_held3 (fun w' => w'.cell? ⟨w.heap.size, 0, none⟩ = some (.int .i64 P) ∧ w'.cell? ⟨w.heap.size, 1, none⟩ = some v1 ∧ w'.cell? ⟨w.heap.size + 1, 0, none⟩ = some (.int .i64 Q) ∧ w'.cell? ⟨w.heap.size + 1, 1, none⟩ = some v2 ∧ RdS w' v1 l ∧ RdS w' v2 k ∧ Below W.heap.size W w')
   (first | (refine ⟨?_, ?_, ?_, ?_, ?_, ?_, ?_⟩ <;> first | (simp [go_sem]; done) | (exact keepCell hbx (by simp [go_sem, *])) | (exact keepCell hby (by simp [go_sem, *])) | assumption | exact keepRd hbx (by simp [*]) | exact keepRd hby (by simp [*]) | exact keepBelow (by simp [*]) hbx | exact keepBelow (by simp [*]) hby | exact (Below.refl _ _).drew | exact keepRd (Below.refl _ _).drew hr1 | exact keepRd (Below.refl _ _).drew hr2))
   (first
    | (go_at_call_of 185 (Value.agg #[Value.int IntKind.i64 P, v1]); refine (HS1.out _ (by simp [*])).mono ?_; rintro e w' ⟨vx, X, rfl, hrx, hsx, hlx, hbx⟩)
    | (go_at_call_of 185 (Value.agg #[Value.int IntKind.i64 Q, v2]); refine (HS2.out _ (by simp [*])).mono ?_; rintro e w' ⟨vy, Y, rfl, hry, hsy, hly, hby⟩))
  all_goals (go_wp2_with fail; go_meet; case rel => exact ⟨X, Y, keepRd hby hrx, hry, hsx, hsy, hlx, hly, by simp [*]⟩)
 case rest =>
 obtain ⟨X, Y, hrx, hry, hsx, hsy, hlx, hly, hbc⟩ := hcut
 have hL1 := Lib.hid (lists_any _ _ X Y 0 wc hrx hry (by omega) (by omega) hsx.1 hsy.1)
 have HRX := Lib.hid hrx
 have HRY := Lib.hid hry
 have hBc := keepBelow hW hbc
 obtain ⟨x1, x2, rfl, _, _⟩ := hrx
 obtain ⟨y1, y2, rfl, _, _⟩ := hry
 go_wp2_with fail
 refine hL1.out.mono ?_
 rintro e w2 ⟨v3, A, rfl, ho3, hcA, hvA, hlA, hb3⟩
 have hL2 := Lib.hid (lists_any _ _ X Y 1 w2 (keepRd hb3 HRX.out) (keepRd hb3 HRY.out) (by omega) (by omega) hsx.1 hsy.1)
 have hB3 := keepBelow hBc hb3
 have HA := Lib.hid (ho3.rd (by omega))
 obtain ⟨a3, c3', rfl, _⟩ := ho3.form
 go_wp2_with fail
 refine hL2.out.mono ?_
 rintro e w3 ⟨v4, B, rfl, ho4, hcB, hvB, hlB, hb4⟩
 have hL3 := Lib.hid (lists_any _ _ A B 2 w3 (keepRd hb4 HA.out) (ho4.rd (by omega)) (by omega) (by omega) hcA hcB)
 have hB4 := keepBelow hB3 hb4
 obtain ⟨a4, c4, rfl, _⟩ := ho4.form
 go_wp2_with fail
 refine hL3.out.mono ?_
 rintro e w4 ⟨v5, D, rfl, ho5, hcD, hvD, hlD, hb5⟩
 have hB5 := keepBelow hB4 hb5
 obtain ⟨hins, hval⟩ := differ_in (p := (P, l)) (q := (Q, k)) hsx hsy (xor_lists hvA hvB hvD) hcD
 have HVAL := Lib.hid hval
 have HINS := Lib.hid hins
 clear hval hins hvA hvB hvD
 go_wp2
 go_ret
 exact ⟨v5, D, rfl, ho5.mono hB4.size, hcD, HINS.out, HVAL.out, by omega, hB5⟩
end Go.Proofs.YtlbjfbpejomkmaaGreat
