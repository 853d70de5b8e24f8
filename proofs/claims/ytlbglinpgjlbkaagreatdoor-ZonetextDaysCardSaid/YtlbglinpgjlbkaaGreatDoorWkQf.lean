import Derived.Test.YtlbglinpgjlbkaaGreatDoorWkQe
/- Zone texts: the reference's values of digits. -/
namespace Go.Proofs.YtlbglinpgjlbkaaGreatDoor
open Go.RowKit Wk

theorem decV_dig : ∀ (l : Bs), l.length ≤ 2 → l.all digC = true → decV l ≤ 99 ∧ (l.length ≤ 1 → decV l ≤ 9)
 | [], _, _ => by simp [decV, decF]
 | [a], _, h => by
  simp only [List.all_cons, Bool.and_eq_true] at h
  have := dig_of h.1
  simp [decV, decF]
  omega
 | [a, b], _, h => by
  simp only [List.all_cons, Bool.and_eq_true] at h
  have := dig_of h.1
  have := dig_of h.2.1
  rw [decV_two]
  unfold sixV
  simp
  omega
 | a :: b :: c :: r, h, _ => by simp at h
theorem dig_at {s : ByteArray} (h : (bsO s).all digC = true) {k : Nat} (hk : k < s.size) : digC s[k] = true := by
 have := List.all_eq_true.1 h s[k] (by rw [← bs_at s k hk]; exact List.getElem_mem _)
 exact this
end Go.Proofs.YtlbglinpgjlbkaaGreatDoor
namespace Go.Proofs.YtlbglinpgjlbkaaGreatDoor
open Go.RowKit Wk

def spanP (s : Bs) : Int × Bool := match spanM s with
 | some n => (n, true)
 | none => (0, false)
theorem span_ret {s : Bs} {p : Int × Bool} {a : Int} {b : Bool} (h : spanP s = p) (h2 : spanP s = (a, b)) : Ending.returned (.tuple #[.int .i64 a, .bool b]) = .returned (.tuple #[.int .i64 p.1, .bool p.2]) := by
 rw [← h, h2]
end Go.Proofs.YtlbglinpgjlbkaaGreatDoor
namespace Go.Proofs.YtlbglinpgjlbkaaGreatDoor
open Go.RowKit Wk

theorem six_bd {a b : UInt8} (h : sixB a b = true) : sixV a b ≤ 59 := by
 unfold sixB at h
 simp only [Bool.and_eq_true, decide_eq_true_eq] at h
 have := dig_of h.1.1
 have := dig_of h.1.2
 unfold sixV
 omega
theorem span_bd {s : Bs} {n : Nat} (h : spanM s = some n) : n ≤ 400000 := by
 rw [span_tl] at h
 by_cases hh : hourB (s.takeWhile (· != 58)) = false
 ·rw [if_pos hh] at h
  exact absurd h (by simp)
 ·rw [if_neg hh] at h
  have hh : hourB (s.takeWhile (· != 58)) = true := by simpa using hh
  unfold hourB at hh
  rw [Bool.and_eq_true, decide_eq_true_eq] at hh
  have hv := (decV_dig _ hh.2 (whole_iff.1 hh.1).2.1).1
  generalize decV (s.takeWhile (· != 58)) = v at *
  unfold spanTl at h
  split at h
  ·injection h with h
   omega
  ·split at h
   ·rename_i hs
    injection h with h
    have := six_bd hs
    omega
   ·exact absurd h (by simp)
  ·split at h
   ·rename_i hs
    injection h with h
    rw [Bool.and_eq_true, Bool.and_eq_true] at hs
    have := six_bd hs.1.1
    have := six_bd hs.2
    omega
   ·exact absurd h (by simp)
  ·exact absurd h (by simp)
theorem off_ret {s : ByteArray} {n : Int × Int} {a b : Int} (h : offsetM (bsO s) = n) (h2 : offsetM (bsO s) = (a, b)) : Ending.returned (.tuple #[.int .i64 a, .int .i64 b]) = .returned (.tuple #[.int .i64 n.1, .int .i64 n.2]) := by
 rw [← h, h2]
theorem neg_at (s : ByteArray) : negB (bsO s) = true ↔ ∃ h : 0 < s.size, (s[0].toNat : Int) = 45 := by
 unfold negB
 rw [List.head?_eq_getElem?]
 by_cases h : 0 < s.size
 ·rw [List.getElem?_eq_getElem (by rw [bs_len]; exact h), bs_at s 0 h]
  have := toNat_ne (x := s[0]) (n := 45) (by omega)
  constructor
  ·intro q
   exact ⟨h, this.2 (by simpa using q)⟩
  ·rintro ⟨_, q⟩
   have q := this.1 q
   rw [q]
   rfl
 ·rw [List.getElem?_eq_none (by rw [bs_len]; omega)]
  constructor
  ·intro q; exact absurd q (by decide)
  ·rintro ⟨q, _⟩; exact absurd q h
end Go.Proofs.YtlbglinpgjlbkaaGreatDoor
namespace Go.Proofs.YtlbglinpgjlbkaaGreatDoor
open Go.RowKit Wk

theorem clk_ret {s : ByteArray} {n : Int × Int × Int} {a b c : Int} (h : clockM (bsO s) = n) (h2 : clockM (bsO s) = (a, b, c)) : Ending.returned (.tuple #[.int .i64 a, .int .i64 b, .int .i64 c]) = .returned (.tuple #[.int .i64 n.1, .int .i64 n.2.1, .int .i64 n.2.2]) := by
 rw [← h, h2]
theorem last_at (s : ByteArray) (h : 0 < s.size) : (bsO s).getLast? = some (s[s.size - 1]'(by omega)) := by
 rw [List.getLast?_eq_getElem?, bs_len, List.getElem?_eq_getElem (by rw [bs_len]; omega), bs_at s (s.size - 1) (by omega)]
theorem clk_of {s T : Bs} {c : Int} (h1 : clkCut s = T) (h2 : clkOf s = c) {r : Int × Int × Int} (h : ((spanP T).2 = false ∧ r = (0, 0, 3)) ∨ ((spanP T).2 = true ∧ 93600 < (spanP T).1 ∧ r = (0, 0, 2)) ∨ ((spanP T).2 = true ∧ ¬93600 < (spanP T).1 ∧ r = ((spanP T).1, c, 0))) : clockM s = r := by
 unfold clockM
 unfold spanP at h
 rw [h1, h2]
 cases hm : spanM T with
 | none =>
  simp only [hm] at h
  rcases h with h | h | h
  ·exact h.2.symm
  ·exact absurd h.1 (by simp)
  ·exact absurd h.1 (by simp)
 | some n =>
  simp only [hm] at h
  rcases h with h | h | h
  ·exact absurd h.1 (by simp)
  ·rw [h.2.2]
   have : 93600 < n := by have := h.2.1; omega
   simp only [this, if_true]
  ·rw [h.2.2]
   have : ¬93600 < n := by have := h.2.1; omega
   simp only [this, if_false]
end Go.Proofs.YtlbglinpgjlbkaaGreatDoor
namespace Go.Proofs.YtlbglinpgjlbkaaGreatDoor
open Go.RowKit Wk

def nv (n : Nat) : Int := -(n : Int)
def pv (n : Nat) : Int := n
theorem negR_at (s : ByteArray) : negR (bsO s) = true ↔ ∃ h : 1 < s.size, (s[0].toNat : Int) = 45 ∧ (s[1].toNat : Int) ≠ 48 := by
 unfold negR
 rw [bs_len, List.head?_eq_getElem?, List.head?_eq_getElem?, List.getElem?_tail]
 by_cases h : 1 < s.size
 ·rw [List.getElem?_eq_getElem (by rw [bs_len]; omega), List.getElem?_eq_getElem (by rw [bs_len]; omega), bs_at s 0 (by omega), bs_at s 1 h, decide_eq_true h]
  have h1 := toNat_ne (x := s[0]) (n := 45) (by omega)
  have h2 := toNat_ne (x := s[1]) (n := 48) (by omega)
  simp only [Bool.true_and, Bool.and_eq_true, beq_iff_eq, Bool.not_eq_true', beq_eq_false_iff_ne, Option.some.injEq, ne_eq]
  constructor
  ·rintro ⟨a, b⟩
   exact ⟨h, h1.2 a, fun q => b (h2.1 q)⟩
  ·rintro ⟨_, a, b⟩
   exact ⟨h1.1 a, fun q => b (h2.2 q)⟩
 ·rw [decide_eq_false h, Bool.false_and, Bool.false_and]
  constructor
  ·intro q; exact absurd q (by simp)
  ·rintro ⟨q, _⟩; exact absurd q h
set_option maxHeartbeats 8000000 in
theorem number18_any (s : ByteArray) (hs : s.size < 4294967281) (lo hi : Int) (hlo : -9223372036854775808 ≤ lo) (hhi : hi ≤ 9223372036854775807) (w' : World) :
  Calls Tryz.prog 132 #[.string s, .int .i64 lo, .int .i64 hi] w' fun e w'' => e = .returned (.tuple #[.int .i64 (numM (bsO s) lo hi).1, .int .i64 (numM (bsO s) lo hi).2]) ∧ w'' = w' := by
 obtain ⟨n, hn⟩ : ∃ n, numM (bsO s) lo hi = n := ⟨_, rfl⟩
 rw [hn]
 have HN : Hid (numM (bsO s) lo hi = n) := Lib.hid hn
 clear hn
 go_enter Tryz.func132, Tryz.ntmps132
 by_cases hr : negR (bsO s) = true
 ·obtain ⟨h1, h45, h48⟩ := (negR_at s).1 hr
  have HNR := Lib.hid hr
  obtain ⟨t, ht⟩ : ∃ t, s.extract 1 s.size = t := ⟨_, rfl⟩
  have HT : Hid ((if negR (bsO s) = true then (bsO s).tail else bsO s) = bsO t) := by
   refine Lib.hid ?_
   rw [if_pos hr, ← ht, bs_ext, List.take_of_length_le (by rw [bs_len]; exact Nat.le_refl _)]
   cases bsO s <;> rfl
  have hts : t.size < 4294967281 := by
   have h := congrArg List.length HT.out
   rw [if_pos hr, List.length_tail, bs_len, bs_len] at h
   omega
  have g1 : (1 : Int) < s.size := by omega
  have g1' : (1 : Int) ≤ s.size := by omega
  have h0 : 0 < s.size := by omega
  have g2 : ((s[0].toNat : Int) == 45) = true := by simpa using h45
  have g3 : ((s[1].toNat : Int) != 48) = true := by simpa using h48
  clear hr h45 h48
  have HW := Lib.hid (whole18_any t hts)
  cases hwt : wholeB (bsO t) with
  | false =>
   have HB : Hid (numM (bsO s) lo hi = (0, 3)) := Lib.hid (num_bad (by rw [← (ref_form (bsO s)).1, HT.out, hwt]))
   rw [hwt] at HW
   go_wp2_with (first | (go_at_call 188; refine (HW.out _).mono ?_; rintro e w' ⟨rfl, rfl⟩) | (fail))
   go_ret2
   exact ⟨num_ret HN.out HB.out, rfl⟩
  | true =>
   have hform : formN (bsO s) = true := by rw [← (ref_form (bsO s)).1, HT.out, hwt]
   have hneg : negB (bsO s) = true := by rw [← (ref_form (bsO s)).2 hform]; exact HNR.out
   have habs : absB (bsO s) = bsO t := by
    have h := HT.out
    rw [(ref_form (bsO s)).2 hform] at h
    exact h
   have HF : Hid (numM (bsO s) lo hi = if 9223372036854775808 < decV (bsO t) ∨ (true = false ∧ decV (bsO t) = 9223372036854775808) then (0, 2) else if nv (decV (bsO t)) < lo ∨ hi < nv (decV (bsO t)) then (0, 2) else (nv (decV (bsO t)), 0)) := by
    refine Lib.hid ?_
    have h := num_fin (s := bsO s) (lo := lo) (hi := hi) hform hlo hhi
    have hv : numV (bsO s) = nv (decV (bsO t)) := by
     unfold numV
     rw [hneg, habs]
     rfl
    rw [hneg, habs, hv] at h
    exact h
   have HD : Hid ((bsO t).all digC = true) := Lib.hid (whole_iff.1 hwt).2.1
   rw [hwt] at HW
   clear hform hneg habs
   go_wp2_with (first | (go_at_call 188; refine (HW.out _).mono ?_; rintro e w' ⟨rfl, rfl⟩) | (fail))
   go_loopw [10, 11, 12] (fun vn vk _ wr => ∃ (k : Nat) (m : Int), vk = .int .i64 k ∧ vn = .int .i64 m ∧ k ≤ t.size ∧ NumI t k m false ∧ wr = w') (fun _ u _ _ => t.size - (intOf u).toNat)
   case atStart => exact ⟨0, 0, rfl, rfl, Nat.zero_le _, NumI.start t, rfl⟩
   case round =>
    obtain ⟨k, m, rfl, rfl, hk, HI, hw⟩ := hrel
    rw [hw]
    clear hw
    have hkb : (k : Int) ≤ 4294967280 := by omega
    have m1 := HI.lo
    have m2 := HI.hi
    by_cases hlt : k < t.size
    ·have hd := dig_at HD.out hlt
     have hd1 : 48 ≤ (t[k].toNat : Int) := by have := dig_of hd; omega
     have hd2 : (t[k].toNat : Int) ≤ 57 := by have := dig_of hd; omega
     by_cases hq : m < (-9223372036854775808 + ((t[k].toNat : Int) - 48)).tdiv 10
     ·have HB := HI.next_big hd hq
      have HX : Hid (9223372036854775808 < decV (bsO t)) := by
       refine Lib.hid ?_
       have h1 := HB.big.out
       have h1 : 9223372036854775808 < decV ((bsO t).take (k + 1)) := by simpa using h1.symm
       have := decV_take (bsO t) (k + 1)
       omega
      clear HB hd
      go_wp2_with fail
      go_ret2
      refine ⟨num_ret HN.out ?_, rfl⟩
      rw [HF.out, if_pos (.inl HX.out)]
     ·have HS := HI.next_small hd hq
      have q1 : -9223372036854775808 ≤ 10 * m := by have := HS.lo; omega
      have q2 : 10 * m ≤ 0 := by omega
      have q3 := HS.lo
      clear hd
      go_wp2_with fail
      go_roundw
      case rel => exact ⟨k + 1, _, by go_num, rfl, by omega, HS, by first | trivial | rfl⟩
      case measure => simp [intOf]; omega
    ·obtain rfl : k = t.size := by omega
     obtain ⟨-, e2, e3⟩ := HI.all
     have e4 : ¬9223372036854775808 < decV (bsO t) := by
      intro q
      rw [decide_eq_true q] at e2
      cases e2
     have e5 := e3 rfl
     have HW2 : Hid (numM (bsO s) lo hi = if m < lo ∨ hi < m then (0, 2) else (m, 0)) := by
      refine Lib.hid ?_
      rw [HF.out, if_neg]
      ·rw [show nv (decV (bsO t)) = m by show -(decV (bsO t) : Int) = m; omega]
      ·rintro (q | q)
       ·exact e4 q
       ·exact absurd q.1 (by simp)
     clear e2 e3 e4 e5
     go_wp2_with fail
     all_goals go_ret2
     all_goals exact ⟨num_ret HN.out (by rw [HW2.out]; first | exact if_pos (by omega) | exact if_neg (by omega)), rfl⟩
 ·have HNR : Hid (negR (bsO s) = false) := Lib.hid (by simpa using hr)
  have HT : Hid ((if negR (bsO s) = true then (bsO s).tail else bsO s) = bsO s) := Lib.hid (if_neg hr)
  obtain ⟨t, hst⟩ : ∃ t, s = t := ⟨_, rfl⟩
  have hts := hs
  have hr2 := fun q => hr ((negR_at s).2 q)
  clear hr
  by_cases h1 : 1 < s.size
  ·have g1 : (1 : Int) < s.size := by omega
   have h0 : 0 < s.size := by omega
   by_cases h45 : (s[0].toNat : Int) = 45
   ·have g2 : ((s[0].toNat : Int) == 45) = true := by simpa using h45
    have g3 : ((s[1].toNat : Int) != 48) = false := by
     have : (s[1].toNat : Int) = 48 := Decidable.byContradiction fun q => hr2 ⟨h1, h45, q⟩
     simpa using this
    clear hr2 h45 hst t
    have HW := Lib.hid (whole18_any s hts)
    cases hwt : wholeB (bsO s) with
    | false =>
     have HB : Hid (numM (bsO s) lo hi = (0, 3)) := Lib.hid (num_bad (by rw [← (ref_form (bsO s)).1, HT.out, hwt]))
     rw [hwt] at HW
     go_wp2_with (first | (go_at_call 188; refine (HW.out _).mono ?_; rintro e w' ⟨rfl, rfl⟩) | (fail))
     go_ret2
     exact ⟨num_ret HN.out HB.out, rfl⟩
    | true =>
     have hform : formN (bsO s) = true := by rw [← (ref_form (bsO s)).1, HT.out, hwt]
     have hneg : negB (bsO s) = false := by rw [← (ref_form (bsO s)).2 hform]; exact HNR.out
     have habs : absB (bsO s) = bsO s := by
      have h := HT.out
      rw [(ref_form (bsO s)).2 hform] at h
      exact h
     have HF : Hid (numM (bsO s) lo hi = if 9223372036854775808 < decV (bsO s) ∨ (false = false ∧ decV (bsO s) = 9223372036854775808) then (0, 2) else if pv (decV (bsO s)) < lo ∨ hi < pv (decV (bsO s)) then (0, 2) else (pv (decV (bsO s)), 0)) := by
      refine Lib.hid ?_
      have h := num_fin (s := bsO s) (lo := lo) (hi := hi) hform hlo hhi
      have hv : numV (bsO s) = pv (decV (bsO s)) := by
       unfold numV
       rw [hneg, habs]
       rfl
      rw [hneg, habs, hv] at h
      exact h
     have HD : Hid ((bsO s).all digC = true) := Lib.hid (whole_iff.1 hwt).2.1
     rw [hwt] at HW
     clear hform hneg habs
     go_wp2_with (first | (go_at_call 188; refine (HW.out _).mono ?_; rintro e w' ⟨rfl, rfl⟩) | (fail))
     go_loopw [10, 11, 12] (fun vn vk _ wr => ∃ (k : Nat) (m : Int), vk = .int .i64 k ∧ vn = .int .i64 m ∧ k ≤ s.size ∧ NumI s k m false ∧ wr = w') (fun _ u _ _ => s.size - (intOf u).toNat)
     case atStart => exact ⟨0, 0, rfl, rfl, Nat.zero_le _, NumI.start s, rfl⟩
     case round =>
      obtain ⟨k, m, rfl, rfl, hk, HI, hw⟩ := hrel
      rw [hw]
      clear hw
      have hkb : (k : Int) ≤ 4294967280 := by omega
      have m1 := HI.lo
      have m2 := HI.hi
      by_cases hlt : k < s.size
      ·have hd := dig_at HD.out hlt
       have hd1 : 48 ≤ (s[k].toNat : Int) := by have := dig_of hd; omega
       have hd2 : (s[k].toNat : Int) ≤ 57 := by have := dig_of hd; omega
       by_cases hq : m < (-9223372036854775808 + ((s[k].toNat : Int) - 48)).tdiv 10
       ·have HB := HI.next_big hd hq
        have HX : Hid (9223372036854775808 < decV (bsO s)) := by
         refine Lib.hid ?_
         have h1 := HB.big.out
         have h1 : 9223372036854775808 < decV ((bsO s).take (k + 1)) := by simpa using h1.symm
         have := decV_take (bsO s) (k + 1)
         omega
        clear HB hd
        go_wp2_with fail
        go_ret2
        refine ⟨num_ret HN.out ?_, rfl⟩
        rw [HF.out, if_pos (.inl HX.out)]
       ·have HS := HI.next_small hd hq
        have q1 : -9223372036854775808 ≤ 10 * m := by have := HS.lo; omega
        have q2 : 10 * m ≤ 0 := by omega
        have q3 := HS.lo
        clear hd
        go_wp2_with fail
        go_roundw
        case rel => exact ⟨k + 1, _, by go_num, rfl, by omega, HS, by first | trivial | rfl⟩
        case measure => simp [intOf]; omega
      ·obtain rfl : k = s.size := by omega
       obtain ⟨-, e2, e3⟩ := HI.all
       have e4 : ¬9223372036854775808 < decV (bsO s) := by
        intro q
        rw [decide_eq_true q] at e2
        cases e2
       have e5 := e3 rfl
       by_cases hmin : m = -9223372036854775808
       ·have HW2 : Hid (numM (bsO s) lo hi = (0, 2)) := by
         refine Lib.hid ?_
         rw [HF.out, if_pos]
         exact .inr ⟨by first | trivial | rfl, by omega⟩
        have gm : (m == -9223372036854775808) = true := by simpa using hmin
        clear e2 e3 e4 e5 hmin
        go_wp2_with fail
        all_goals go_ret2
        all_goals exact ⟨num_ret HN.out HW2.out, rfl⟩
       ·have HW2 : Hid (numM (bsO s) lo hi = if -m < lo ∨ hi < -m then (0, 2) else (-m, 0)) := by
         refine Lib.hid ?_
         rw [HF.out, if_neg]
         ·rw [show pv (decV (bsO s)) = -m by show (decV (bsO s) : Int) = -m; omega]
         ·rintro (q | q)
          ·exact e4 q
          ·omega
        have gm : (m == -9223372036854775808) = false := by simpa using hmin
        have m3 : -9223372036854775807 ≤ m := by omega
        clear e2 e3 e4 e5 hmin
        go_wp2_with fail
        all_goals go_ret2
        all_goals exact ⟨num_ret HN.out (by rw [HW2.out]; first | exact if_pos (by omega) | exact if_neg (by omega)), rfl⟩
   ·have g2 : ((s[0].toNat : Int) == 45) = false := by simpa using h45
    clear hr2 h45 hst t
    have HW := Lib.hid (whole18_any s hts)
    cases hwt : wholeB (bsO s) with
    | false =>
     have HB : Hid (numM (bsO s) lo hi = (0, 3)) := Lib.hid (num_bad (by rw [← (ref_form (bsO s)).1, HT.out, hwt]))
     rw [hwt] at HW
     go_wp2_with (first | (go_at_call 188; refine (HW.out _).mono ?_; rintro e w' ⟨rfl, rfl⟩) | (fail))
     go_ret2
     exact ⟨num_ret HN.out HB.out, rfl⟩
    | true =>
     have hform : formN (bsO s) = true := by rw [← (ref_form (bsO s)).1, HT.out, hwt]
     have hneg : negB (bsO s) = false := by rw [← (ref_form (bsO s)).2 hform]; exact HNR.out
     have habs : absB (bsO s) = bsO s := by
      have h := HT.out
      rw [(ref_form (bsO s)).2 hform] at h
      exact h
     have HF : Hid (numM (bsO s) lo hi = if 9223372036854775808 < decV (bsO s) ∨ (false = false ∧ decV (bsO s) = 9223372036854775808) then (0, 2) else if pv (decV (bsO s)) < lo ∨ hi < pv (decV (bsO s)) then (0, 2) else (pv (decV (bsO s)), 0)) := by
      refine Lib.hid ?_
      have h := num_fin (s := bsO s) (lo := lo) (hi := hi) hform hlo hhi
      have hv : numV (bsO s) = pv (decV (bsO s)) := by
       unfold numV
       rw [hneg, habs]
       rfl
      rw [hneg, habs, hv] at h
      exact h
     have HD : Hid ((bsO s).all digC = true) := Lib.hid (whole_iff.1 hwt).2.1
     rw [hwt] at HW
     clear hform hneg habs
     go_wp2_with (first | (go_at_call 188; refine (HW.out _).mono ?_; rintro e w' ⟨rfl, rfl⟩) | (fail))
     go_loopw [10, 11, 12] (fun vn vk _ wr => ∃ (k : Nat) (m : Int), vk = .int .i64 k ∧ vn = .int .i64 m ∧ k ≤ s.size ∧ NumI s k m false ∧ wr = w') (fun _ u _ _ => s.size - (intOf u).toNat)
     case atStart => exact ⟨0, 0, rfl, rfl, Nat.zero_le _, NumI.start s, rfl⟩
     case round =>
      obtain ⟨k, m, rfl, rfl, hk, HI, hw⟩ := hrel
      rw [hw]
      clear hw
      have hkb : (k : Int) ≤ 4294967280 := by omega
      have m1 := HI.lo
      have m2 := HI.hi
      by_cases hlt : k < s.size
      ·have hd := dig_at HD.out hlt
       have hd1 : 48 ≤ (s[k].toNat : Int) := by have := dig_of hd; omega
       have hd2 : (s[k].toNat : Int) ≤ 57 := by have := dig_of hd; omega
       by_cases hq : m < (-9223372036854775808 + ((s[k].toNat : Int) - 48)).tdiv 10
       ·have HB := HI.next_big hd hq
        have HX : Hid (9223372036854775808 < decV (bsO s)) := by
         refine Lib.hid ?_
         have h1 := HB.big.out
         have h1 : 9223372036854775808 < decV ((bsO s).take (k + 1)) := by simpa using h1.symm
         have := decV_take (bsO s) (k + 1)
         omega
        clear HB hd
        go_wp2_with fail
        go_ret2
        refine ⟨num_ret HN.out ?_, rfl⟩
        rw [HF.out, if_pos (.inl HX.out)]
       ·have HS := HI.next_small hd hq
        have q1 : -9223372036854775808 ≤ 10 * m := by have := HS.lo; omega
        have q2 : 10 * m ≤ 0 := by omega
        have q3 := HS.lo
        clear hd
        go_wp2_with fail
        go_roundw
        case rel => exact ⟨k + 1, _, by go_num, rfl, by omega, HS, by first | trivial | rfl⟩
        case measure => simp [intOf]; omega
      ·obtain rfl : k = s.size := by omega
       obtain ⟨-, e2, e3⟩ := HI.all
       have e4 : ¬9223372036854775808 < decV (bsO s) := by
        intro q
        rw [decide_eq_true q] at e2
        cases e2
       have e5 := e3 rfl
       by_cases hmin : m = -9223372036854775808
       ·have HW2 : Hid (numM (bsO s) lo hi = (0, 2)) := by
         refine Lib.hid ?_
         rw [HF.out, if_pos]
         exact .inr ⟨by first | trivial | rfl, by omega⟩
        have gm : (m == -9223372036854775808) = true := by simpa using hmin
        clear e2 e3 e4 e5 hmin
        go_wp2_with fail
        all_goals go_ret2
        all_goals exact ⟨num_ret HN.out HW2.out, rfl⟩
       ·have HW2 : Hid (numM (bsO s) lo hi = if -m < lo ∨ hi < -m then (0, 2) else (-m, 0)) := by
         refine Lib.hid ?_
         rw [HF.out, if_neg]
         ·rw [show pv (decV (bsO s)) = -m by show (decV (bsO s) : Int) = -m; omega]
         ·rintro (q | q)
          ·exact e4 q
          ·omega
        have gm : (m == -9223372036854775808) = false := by simpa using hmin
        have m3 : -9223372036854775807 ≤ m := by omega
        clear e2 e3 e4 e5 hmin
        go_wp2_with fail
        all_goals go_ret2
        all_goals exact ⟨num_ret HN.out (by rw [HW2.out]; first | exact if_pos (by omega) | exact if_neg (by omega)), rfl⟩
  ·have g1 : ¬(1 : Int) < s.size := by omega
   clear hr2 hst t
   have HW := Lib.hid (whole18_any s hts)
   cases hwt : wholeB (bsO s) with
   | false =>
    have HB : Hid (numM (bsO s) lo hi = (0, 3)) := Lib.hid (num_bad (by rw [← (ref_form (bsO s)).1, HT.out, hwt]))
    rw [hwt] at HW
    go_wp2_with (first | (go_at_call 188; refine (HW.out _).mono ?_; rintro e w' ⟨rfl, rfl⟩) | (fail))
    go_ret2
    exact ⟨num_ret HN.out HB.out, rfl⟩
   | true =>
    have hform : formN (bsO s) = true := by rw [← (ref_form (bsO s)).1, HT.out, hwt]
    have hneg : negB (bsO s) = false := by rw [← (ref_form (bsO s)).2 hform]; exact HNR.out
    have habs : absB (bsO s) = bsO s := by
     have h := HT.out
     rw [(ref_form (bsO s)).2 hform] at h
     exact h
    have HF : Hid (numM (bsO s) lo hi = if 9223372036854775808 < decV (bsO s) ∨ (false = false ∧ decV (bsO s) = 9223372036854775808) then (0, 2) else if pv (decV (bsO s)) < lo ∨ hi < pv (decV (bsO s)) then (0, 2) else (pv (decV (bsO s)), 0)) := by
     refine Lib.hid ?_
     have h := num_fin (s := bsO s) (lo := lo) (hi := hi) hform hlo hhi
     have hv : numV (bsO s) = pv (decV (bsO s)) := by
      unfold numV
      rw [hneg, habs]
      rfl
     rw [hneg, habs, hv] at h
     exact h
    have HD : Hid ((bsO s).all digC = true) := Lib.hid (whole_iff.1 hwt).2.1
    rw [hwt] at HW
    clear hform hneg habs
    go_wp2_with (first | (go_at_call 188; refine (HW.out _).mono ?_; rintro e w' ⟨rfl, rfl⟩) | (fail))
    go_loopw [10, 11, 12] (fun vn vk _ wr => ∃ (k : Nat) (m : Int), vk = .int .i64 k ∧ vn = .int .i64 m ∧ k ≤ s.size ∧ NumI s k m false ∧ wr = w') (fun _ u _ _ => s.size - (intOf u).toNat)
    case atStart => exact ⟨0, 0, rfl, rfl, Nat.zero_le _, NumI.start s, rfl⟩
    case round =>
     obtain ⟨k, m, rfl, rfl, hk, HI, hw⟩ := hrel
     rw [hw]
     clear hw
     have hkb : (k : Int) ≤ 4294967280 := by omega
     have m1 := HI.lo
     have m2 := HI.hi
     by_cases hlt : k < s.size
     ·have hd := dig_at HD.out hlt
      have hd1 : 48 ≤ (s[k].toNat : Int) := by have := dig_of hd; omega
      have hd2 : (s[k].toNat : Int) ≤ 57 := by have := dig_of hd; omega
      by_cases hq : m < (-9223372036854775808 + ((s[k].toNat : Int) - 48)).tdiv 10
      ·have HB := HI.next_big hd hq
       have HX : Hid (9223372036854775808 < decV (bsO s)) := by
        refine Lib.hid ?_
        have h1 := HB.big.out
        have h1 : 9223372036854775808 < decV ((bsO s).take (k + 1)) := by simpa using h1.symm
        have := decV_take (bsO s) (k + 1)
        omega
       clear HB hd
       go_wp2_with fail
       go_ret2
       refine ⟨num_ret HN.out ?_, rfl⟩
       rw [HF.out, if_pos (.inl HX.out)]
      ·have HS := HI.next_small hd hq
       have q1 : -9223372036854775808 ≤ 10 * m := by have := HS.lo; omega
       have q2 : 10 * m ≤ 0 := by omega
       have q3 := HS.lo
       clear hd
       go_wp2_with fail
       go_roundw
       case rel => exact ⟨k + 1, _, by go_num, rfl, by omega, HS, by first | trivial | rfl⟩
       case measure => simp [intOf]; omega
     ·obtain rfl : k = s.size := by omega
      obtain ⟨-, e2, e3⟩ := HI.all
      have e4 : ¬9223372036854775808 < decV (bsO s) := by
       intro q
       rw [decide_eq_true q] at e2
       cases e2
      have e5 := e3 rfl
      by_cases hmin : m = -9223372036854775808
      ·have HW2 : Hid (numM (bsO s) lo hi = (0, 2)) := by
        refine Lib.hid ?_
        rw [HF.out, if_pos]
        exact .inr ⟨by first | trivial | rfl, by omega⟩
       have gm : (m == -9223372036854775808) = true := by simpa using hmin
       clear e2 e3 e4 e5 hmin
       go_wp2_with fail
       all_goals go_ret2
       all_goals exact ⟨num_ret HN.out HW2.out, rfl⟩
      ·have HW2 : Hid (numM (bsO s) lo hi = if -m < lo ∨ hi < -m then (0, 2) else (-m, 0)) := by
        refine Lib.hid ?_
        rw [HF.out, if_neg]
        ·rw [show pv (decV (bsO s)) = -m by show (decV (bsO s) : Int) = -m; omega]
        ·rintro (q | q)
         ·exact e4 q
         ·omega
       have gm : (m == -9223372036854775808) = false := by simpa using hmin
       have m3 : -9223372036854775807 ≤ m := by omega
       clear e2 e3 e4 e5 hmin
       go_wp2_with fail
       all_goals go_ret2
       all_goals exact ⟨num_ret HN.out (by rw [HW2.out]; first | exact if_pos (by omega) | exact if_neg (by omega)), rfl⟩
end Go.Proofs.YtlbglinpgjlbkaaGreatDoor
