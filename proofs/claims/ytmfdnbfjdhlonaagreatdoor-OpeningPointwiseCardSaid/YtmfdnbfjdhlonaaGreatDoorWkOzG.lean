import Derived.Test.YtmfdnbfjdhlonaaGreatDoorWkOzF
import Derived.Maps.OwnOps
import Derived.Maps.Views
import Derived.Maps.StringElems
/- Zone texts: the program's spans of time. -/
namespace Go.Proofs.YtmfdnbfjdhlonaaGreatDoor
open Go.RowKit Wk

theorem count_c (c : UInt8) : ∀ (n : Nat) (s : Bs), s.length ≤ n → (splitC c s).length = Lib.countFrom [c] (n + 1) s + 1
 | n, s, hn => by
  obtain ⟨g1, g2⟩ := take_while s c
  rw [Lib.countFrom, index_one, splitC_take]
  by_cases h : s.contains c = true
  ·have hl := drop_lessC c h
   rw [if_pos h, if_pos h, if_neg (by simp)]
   simp only [Int.toNat_natCast, List.length_cons, List.length_nil]
   rw [g2]
   cases n with
   | zero => omega
   | succ n =>
    rw [count_c c n _ (by omega)]
    omega
  ·rw [if_neg h, if_neg h, if_pos (by simp)]
   rfl
theorem parts_any (c : UInt8) (s : ByteArray) (hs : s.size < 4294967281) (w : World) (hg : Glob w) :
  Calls Tryz.prog 63 #[.string s, .string ⟨#[c]⟩] w fun e w' => (∃ a k, e = .returned (.slice (some ⟨a, 0, none⟩) (splitC c (bsO s)).length k) ∧ ∀ i, i < (splitC c (bsO s)).length → w'.cell? ⟨a, i, none⟩ = some (.string ⟨((splitC c (bsO s)).getD i []).toArray⟩)) ∧ Below w.heap.size w w' := by
 obtain ⟨m, hm⟩ := hg
 refine (Tryz.strings_Split s ⟨#[c]⟩ m w hs hm (show 1 ≤ 1 from Nat.le_refl _)).mono ?_
 rintro e w' ⟨rfl, rfl⟩
 have hl : (Lib.splitB ⟨#[c]⟩ 0 (Lib.countB s ⟨#[c]⟩) s).map (fun b => bsO b) = splitC c (bsO s) := by
  have h := Lib.splitB_data ⟨#[c]⟩ 0 (Lib.countB s ⟨#[c]⟩) s
  have e : Lib.splitK [c] 0 (Lib.count (bsO s) [c]) (bsO s) = splitC c (bsO s) := split_c c (bsO s)
  have hc : Lib.countB s ⟨#[c]⟩ = Lib.count (bsO s) [c] := rfl
  rw [hc] at h ⊢
  exact h.trans e
 have hlen : (Lib.splitB ⟨#[c]⟩ 0 (Lib.countB s ⟨#[c]⟩) s).length = (splitC c (bsO s)).length := by rw [← hl, List.length_map]
 have hn : (splitC c (bsO s)).length = Lib.countB s ⟨#[c]⟩ + 1 := count_c c _ _ (Nat.le_refl _)
 refine ⟨⟨w.heap.size, Lib.countB s ⟨#[c]⟩ + 1, by rw [hn], fun i hi => ?_⟩, (Below.refl _ w).alloc (Nat.le_refl _) _⟩
 rw [World.cell?_alloc_new, List.getElem?_toArray, List.getElem?_map]
 have hi2 : i < (Lib.splitB ⟨#[c]⟩ 0 (Lib.countB s ⟨#[c]⟩) s).length := by rw [hlen]; exact hi
 rw [List.getElem?_eq_getElem hi2]
 have hx : (splitC c (bsO s)).getD i [] = bsO (Lib.splitB ⟨#[c]⟩ 0 (Lib.countB s ⟨#[c]⟩) s)[i] := by
  rw [← hl, List.getD_eq_getElem?_getD, List.getElem?_map, List.getElem?_eq_getElem hi2]
  rfl
 rw [hx]
 rfl
theorem part_size (c : UInt8) : ∀ (s : Bs), ∀ l ∈ splitC c s, l.length ≤ s.length
 | [], l, h => by simp [splitC] at h; rw [h]; simp
 | d :: r, l, h => by
  have ih := part_size c r
  unfold splitC at h
  by_cases hc : (d == c) = true
  ·rw [if_pos hc] at h
   rcases List.mem_cons.1 h with rfl | h
   ·simp
   ·have := ih l h
    simp
    omega
  ·rw [if_neg hc] at h
   cases hs : splitC c r with
   | nil => exact absurd hs (splitC_ne c r)
   | cons a b =>
    rw [hs] at h ih
    rcases List.mem_cons.1 h with rfl | h
    ·have := ih a (by simp)
     simp
     omega
    ·have := ih l (by simp [h])
     simp
     omega
def wtP : Nat → Int
 | 0 => 3600
 | 1 => 60
 | _ => 1
def okP (i : Nat) (p : Bs) : Bool := if i = 0 then hourB p else partB p
def totP (LS : List Bs) : Nat → Int
 | 0 => 0
 | i + 1 => totP LS i + (decV (LS.getD i []) : Int) * wtP i
theorem spanL_bad {LS : List Bs} {i : Nat} (hi : i < LS.length) (h : okP i (LS.getD i []) = false) : spanL LS = none := by
 unfold okP at h
 match LS, hi with
 | [a], hi =>
  obtain rfl : i = 0 := by simp at hi; omega
  simp at h
  simp [spanL, h]
 | [a, b], hi =>
  simp at hi
  rcases (by omega : i = 0 ∨ i = 1) with rfl | rfl <;> (simp at h; simp [spanL, h])
 | [a, b, c], hi =>
  simp at hi
  rcases (by omega : i = 0 ∨ i = 1 ∨ i = 2) with rfl | rfl | rfl <;> (simp at h; simp [spanL, h])
 | a :: b :: c :: d :: r, _ => rfl
theorem spanL_long {LS : List Bs} (h : 3 < LS.length) : spanL LS = none := by
 match LS, h with
 | a :: b :: c :: d :: r, _ => rfl
theorem spanL_ok {LS : List Bs} (h1 : 1 ≤ LS.length) (h3 : LS.length ≤ 3) (h : ∀ j, j < LS.length → okP j (LS.getD j []) = true) : ∃ n : Nat, spanL LS = some n ∧ totP LS LS.length = n := by
 match LS, h1, h3 with
 | [a], _, _ =>
  have q0 : hourB a = true := h 0 (by simp)
  refine ⟨3600 * decV a, by simp [spanL, q0], ?_⟩
  simp [totP, wtP]
  omega
 | [a, b], _, _ =>
  have q0 : hourB a = true := h 0 (by simp)
  have q1 : partB b = true := h 1 (by simp)
  refine ⟨3600 * decV a + 60 * decV b, by simp [spanL, q0, q1], ?_⟩
  simp [totP, wtP]
  omega
 | [a, b, c], _, _ =>
  have q0 : hourB a = true := h 0 (by simp)
  have q1 : partB b = true := h 1 (by simp)
  have q2 : partB c = true := h 2 (by simp)
  refine ⟨3600 * decV a + 60 * decV b + decV c, by simp [spanL, q0, q1, q2], ?_⟩
  simp [totP, wtP]
  omega
 | a :: b :: c :: d :: r, _, h3 => simp at h3
theorem spanP_none {s : Bs} (h : spanL (splitC 58 s) = none) : spanP s = (0, false) := by
 unfold spanP
 rw [span_parts, h]
theorem spanP_some {s : Bs} {n : Nat} (h : spanL (splitC 58 s) = some n) : spanP s = ((n : Int), true) := by
 unfold spanP
 rw [span_parts, h]
theorem hour_iff (p : ByteArray) : hourB (bsO p) = true ↔ (1 ≤ p.size ∧ p.size ≤ 2) ∧ (bsO p).all digC = true ∧ ∀ h : 0 < p.size, p.size = 2 → (p[0].toNat : Int) ≠ 48 := by
 unfold hourB
 rw [Bool.and_eq_true, decide_eq_true_eq, whole_ix, bs_len, List.all_eq_true]
 constructor
 ·rintro ⟨⟨h1, h2, h3⟩, h4⟩
  refine ⟨⟨h1, h4⟩, fun x hx => ?_, fun h5 h6 => h3 h5 (by omega)⟩
  obtain ⟨k, hk, rfl⟩ := List.mem_iff_getElem.1 hx
  rw [bs_len] at hk
  rw [bs_at p k hk]
  exact h2 k hk
 ·rintro ⟨⟨h1, h4⟩, h2, h3⟩
  exact ⟨⟨h1, fun k hk => by rw [← bs_at p k hk]; exact h2 _ (List.getElem_mem _), fun h5 h6 => h3 h5 (by omega)⟩, h4⟩
theorem part_iff (p : ByteArray) : partB (bsO p) = true ↔ p.size = 2 ∧ (bsO p).all digC = true ∧ decV (bsO p) ≤ 59 := by
 unfold partB
 rw [Bool.and_eq_true, Bool.and_eq_true, decide_eq_true_eq, decide_eq_true_eq, bs_len, and_assoc]
theorem okP_no {i : Nat} {p : ByteArray} (h : ¬((i = 0 → (1 ≤ p.size ∧ p.size ≤ 2) ∧ (bsO p).all digC = true ∧ ∀ h : 0 < p.size, p.size = 2 → (p[0].toNat : Int) ≠ 48) ∧ (i ≠ 0 → p.size = 2 ∧ (bsO p).all digC = true ∧ decV (bsO p) ≤ 59))) : okP i (bsO p) = false := by
 rw [← Bool.not_eq_true]
 intro q
 apply h
 unfold okP at q
 by_cases hi : i = 0
 ·rw [if_pos hi] at q
  exact ⟨fun _ => (hour_iff p).1 q, fun h => absurd hi h⟩
 ·rw [if_neg hi] at q
  exact ⟨fun h => absurd h hi, fun _ => (part_iff p).1 q⟩

set_option maxRecDepth 100000 in
set_option maxHeartbeats 4000000 in
theorem span_any (s : ByteArray) (hs : s.size < 4294967281) (w : World) (hg : Glob w) :
  Calls Tryz.prog 173 #[.string s] w fun e w' => e = .returned (.tuple #[.int .i64 (spanP (bsO s)).1, .bool (spanP (bsO s)).2]) ∧ Below w.heap.size w w' := by
 obtain ⟨pr, hpr⟩ : ∃ pr, spanP (bsO s) = pr := ⟨_, rfl⟩
 rw [hpr]
 have HP := Lib.hid hpr
 have HSP := Lib.hid (parts_any 58 s hs w hg)
 clear hpr
 go_enter Tryz.func173, Tryz.ntmps173
 obtain ⟨LS, hLS⟩ : ∃ LS, splitC 58 (bsO s) = LS := ⟨_, rfl⟩
 have HPL : Hid (∀ l ∈ LS, l.length ≤ 4294967280) := Lib.hid fun l hl => by
  have := part_size 58 (bsO s) l (by rw [hLS]; exact hl)
  rw [bs_len] at this
  omega
 have hne : 1 ≤ LS.length := by
  have := splitC_ne 58 (bsO s)
  rw [hLS] at this
  exact List.length_pos_iff.2 this
 rw [hLS] at HSP
 have HLS := Lib.hid hLS
 clear hLS
 by_cases h3 : 3 < LS.length
 ·have HN : Hid (spanP (bsO s) = (0, false)) := Lib.hid (spanP_none (by rw [HLS.out]; exact spanL_long h3))
  have g3 : (3 : Int) < LS.length := by omega
  go_wp2_with (first | (go_at_call 63; refine HSP.out.mono ?_; rintro e w1 ⟨⟨ga, gc, rfl, hc⟩, hb⟩; clear hc) | fail)
  go_ret2
  exact ⟨span_ret HP.out HN.out, hb⟩
 have g3 : ¬(3 : Int) < LS.length := by omega
 have g3b : (LS.length : Int) ≤ 3 := by omega
 go_wp2_with (first | (go_at_call 63; refine HSP.out.mono ?_; rintro e w1 ⟨⟨ga, gc, rfl, hc⟩, hb⟩) | fail)
 have HC := Lib.hid hc
 have HB1 := Lib.hid hb
 have HNE := Lib.hid hne
 clear hc hb HSP hne
 go_loopw [5, 6, 7, 8, 9, 17] (fun u5 _ _ _ _ u17 wr => ∃ (i : Nat), u17 = .int .i64 i ∧ i ≤ LS.length ∧ u5 = .int .i64 (totP LS i) ∧ Hid (∀ j, j < i → okP j (LS.getD j []) = true) ∧ Hid (0 ≤ totP LS i ∧ totP LS i ≤ 360000 * i) ∧ Hid (Below w1.heap.size w1 wr)) (fun _ _ _ _ _ u _ => LS.length - (intOf u).toNat)
 case atStart => exact ⟨0, rfl, Nat.zero_le _, rfl, fun j h => absurd h (by omega), ⟨Int.le_refl _, Int.le_refl _⟩, Below.refl _ _⟩
 case round =>
  obtain ⟨i, rfl, hi, rfl, HOK, HT, HBr⟩ := hrel
  by_cases hlt : i < LS.length
  ·obtain ⟨P, hP⟩ : ∃ P : ByteArray, ⟨(LS.getD i []).toArray⟩ = P := ⟨_, rfl⟩
   have hq := keepCell HBr.out (HC.out i hlt)
   rw [hP] at hq
   have HPP : Hid (bsO P = LS.getD i []) := Lib.hid (by rw [← hP])
   have HBAD : Hid (okP i (bsO P) = false → spanP (bsO s) = (0, false)) := Lib.hid fun h => spanP_none (by rw [HLS.out]; exact spanL_bad hlt (by rw [← HPP.out]; exact h))
   have HNX : Hid (okP i (bsO P) = true → (decV (bsO P) : Int) ≤ 99 ∧ totP LS (i + 1) = totP LS i + (decV (bsO P) : Int) * wtP i ∧ ∀ j, j < i + 1 → okP j (LS.getD j []) = true) := Lib.hid fun h => by
    refine ⟨?_, by rw [HPP.out]; rfl, fun j hj => ?_⟩
    ·have : (bsO P).length ≤ 2 ∧ (bsO P).all digC = true := by
      unfold okP at h
      split at h
      ·have := (hour_iff P).1 h
       rw [bs_len]
       exact ⟨this.1.2, this.2.1⟩
      ·have := (part_iff P).1 h
       rw [bs_len]
       exact ⟨by omega, this.2.1⟩
     have := (decV_dig _ this.1 this.2).1
     omega
    ·rcases Nat.lt_or_ge j i with q | q
     ·exact HOK.out j q
     ·obtain rfl : j = i := by omega
      rw [← HPP.out]
      exact h
   have HDB : Hid ((bsO P).length ≤ 2 → ∀ k, ((bsO P).take k).all digC = true → decV ((bsO P).take k) ≤ 99) := Lib.hid fun h k hk => (decV_dig _ (by rw [List.length_take]; omega) hk).1
   have HPS : Hid (P.size ≤ 4294967280) := Lib.hid (by
    have := HPL.out (LS.getD i []) (by rw [List.getD_eq_getElem?_getD, List.getElem?_eq_getElem hlt]; exact List.getElem_mem _)
    rw [← HPP.out, bs_len] at this
    exact this)
   have hps : (P.size : Int) ≤ 4294967280 := by have := HPS.out; omega
   have hib : (i : Int) ≤ 2 := by omega
   clear hP
   obtain ⟨tot, htot⟩ : ∃ t, totP LS i = t := ⟨_, rfl⟩
   rw [htot] at HT HNX ⊢
   have ht0 := HT.out.1
   have ht1 : tot ≤ 720000 := by have := HT.out.2; omega
   clear htot
   by_cases hs1 : P.size < 1
   ·have HNO := Lib.hid (HBAD.out (okP_no fun q => by
     by_cases h0 : i = 0
     ·have := (q.1 h0).1; omega
     ·have := (q.2 h0).1; omega))
    have gs1 : (P.size : Int) < 1 := by omega
    clear hs1
    go_wp2_with fail
    go_ret2
    exact ⟨span_ret HP.out HNO.out, keepBelow HB1.out HBr.out⟩
   have gs1 : ¬(P.size : Int) < 1 := by omega
   by_cases hs2 : 2 < P.size
   ·have HNO := Lib.hid (HBAD.out (okP_no fun q => by
     by_cases h0 : i = 0
     ·have := (q.1 h0).1; omega
     ·have := (q.2 h0).1; omega))
    have gs2 : (2 : Int) < P.size := by omega
    clear hs1 hs2
    go_wp2_with fail
    go_ret2
    exact ⟨span_ret HP.out HNO.out, keepBelow HB1.out HBr.out⟩
   have gs2 : ¬(2 : Int) < P.size := by omega
   by_cases h0 : i = 0
   ·subst h0
    have HS2 : Hid (P.size ≤ 2) := Lib.hid (by omega)
    have HBW := Lib.hid (keepBelow HB1.out HBr.out)
    have hwt : ∀ X : World, (X.alloc (.cells #[.int .i64 3600, .int .i64 60, .int .i64 1] 3)).cell? ⟨X.heap.size, 0, none⟩ = some (.int .i64 3600) := fun X => by simp [go_sem]
    clear hs1 hs2
    go_wp2_with fail
    go_loopw [8, 9, 41] (fun u8 _ u41 wx => ∃ (k n : Nat), u41 = .int .i64 k ∧ u8 = .int .i64 n ∧ k ≤ P.size ∧ Hid (((bsO P).take k).all digC = true) ∧ Hid (n = decV ((bsO P).take k)) ∧ wx = wr) (fun _ _ u _ => P.size - (intOf u).toNat)
    case atStart => exact ⟨0, 0, rfl, rfl, Nat.zero_le _, Lib.hid rfl, Lib.hid rfl, rfl⟩
    case round =>
     obtain ⟨k, n, rfl, rfl, hk, HD, HV, hw⟩ := hrel
     rw [hw]
     clear hw
     have hn9 := HDB.out (by rw [bs_len]; exact HS2.out) k HD.out
     rw [← HV.out] at hn9
     have hnb : (n : Int) ≤ 99 := by omega
     have hkb : (k : Int) ≤ 2 := by have := HS2.out; omega
     by_cases hkt : k < P.size
     ·cases hd : digC P[k] with
      | false =>
       have HNO := Lib.hid (HBAD.out (okP_no fun q => not_dig hd ((q.1 rfl).2.1)))
       go_wp2_with (first | (go_at_call 130; refine (digit_any _ _).mono ?_; rintro e w' ⟨rfl, rfl⟩) | (fail))
       go_ret2
       exact ⟨span_ret HP.out HNO.out, HBW.out⟩
      | true =>
       have hd1 : 48 ≤ (P[k].toNat : Int) := by have := dig_of hd; omega
       have hd2 : (P[k].toNat : Int) ≤ 57 := by have := dig_of hd; omega
       have HT2 : Hid (((10 * n + (P[k].toNat - 48) : Nat)) = decV ((bsO P).take (k + 1))) := by
        rw [take_dig hkt, ← HV.out]
        exact Lib.hid rfl
       have HD2 : Hid (((bsO P).take (k + 1)).all digC = true) := by
        rw [List.take_add_one, List.getElem?_eq_getElem (by rw [bs_len]; exact hkt), bs_at P k hkt, List.all_append, HD.out]
        exact Lib.hid (by simp [hd])
       clear hn9
       go_wp2_with (first | (go_at_call 130; refine (digit_any _ _).mono ?_; rintro e w' ⟨rfl, rfl⟩) | (fail))
       go_roundw
       case rel => exact ⟨k + 1, 10 * n + (P[k].toNat - 48), by go_num, by congr 1; omega, by omega, HD2, HT2, by first | trivial | rfl⟩
       case measure => simp [intOf]; omega
     ·have hke : k = P.size := by omega
      have e : (bsO P).take k = bsO P := List.take_of_length_le (by rw [bs_len]; omega)
      rw [e] at HD HV
      clear e hn9
      by_cases hz : P.size = 2 ∧ ∃ h : 0 < P.size, (P[0].toNat : Int) = 48
      ·obtain ⟨hz2, hz0, hz48⟩ := hz
       have HNO := Lib.hid (HBAD.out (okP_no fun q => (q.1 rfl).2.2 hz0 hz2 hz48))
       have gz : ((P.size : Int) == 2) = true := by rw [hz2]; rfl
       have gz2 : ((P[0].toNat : Int) == 48) = true := by rw [hz48]; rfl
       clear hz48 hz2
       go_wp2_with fail
       go_ret2
       exact ⟨span_ret HP.out HNO.out, HBW.out⟩
      ·have HY := HNX.out (by
        show hourB (bsO P) = true
        exact (hour_iff P).2 ⟨⟨by omega, HS2.out⟩, HD.out, fun h1 h2 h3 => hz ⟨h2, h1, h3⟩⟩)
       rw [← HV.out] at HY
       have HYY := Lib.hid HY
       clear HY
       by_cases hz2 : P.size = 2
       ·have gz : ((P.size : Int) == 2) = true := by rw [hz2]; rfl
        have hp0 : 0 < P.size := by omega
        have gz2 : ((P[0].toNat : Int) == 48) = false := by
         have : ¬(P[0].toNat : Int) = 48 := fun q => hz ⟨hz2, hp0, q⟩
         simpa using this
        clear hz hz2
        go_wp2_with fail
        go_roundw
        case rel => exact ⟨1, by go_num, by omega, by rw [HYY.out.2.1]; rfl, HYY.out.2.2, by rw [HYY.out.2.1]; have := HYY.out.1; have := HT.out; rw [show wtP 0 = 3600 from rfl]; exact ⟨by omega, by omega⟩, keepBelow HBr.out ((Below.refl _ _).alloc (Nat.le_refl _) _)⟩
        case measure => simp [intOf]; omega
       ·have gz : ((P.size : Int) == 2) = false := by simp; omega
        clear hz
        go_wp2_with fail
        go_roundw
        case rel => exact ⟨1, by go_num, by omega, by rw [HYY.out.2.1]; rfl, HYY.out.2.2, by rw [HYY.out.2.1]; have := HYY.out.1; have := HT.out; rw [show wtP 0 = 3600 from rfl]; exact ⟨by omega, by omega⟩, keepBelow HBr.out ((Below.refl _ _).alloc (Nat.le_refl _) _)⟩
        case measure => simp [intOf]; omega
   ·have HI0 := Lib.hid h0
    have gi : (0 : Int) < i := by omega
    have gi2 : ((i : Int) == 0) = false := by simp; omega
    have HBW := Lib.hid (keepBelow HB1.out HBr.out)
    by_cases hs3 : P.size = 2
    ·have HS2 : Hid (P.size ≤ 2) := Lib.hid (by omega)
     have HS3 := Lib.hid hs3
     have gs3 : ((P.size : Int) != 2) = false := by rw [hs3]; rfl
     have hwt : ∀ X : World, (X.alloc (.cells #[.int .i64 3600, .int .i64 60, .int .i64 1] 3)).cell? ⟨X.heap.size, i, none⟩ = some (.int .i64 (wtP i)) := fun X => by
      rcases (by omega : i = 1 ∨ i = 2) with rfl | rfl <;> simp [go_sem, wtP]
     have hw1 : 0 ≤ wtP i := by unfold wtP; split <;> decide
     have hw2 : wtP i ≤ 60 := by rcases (by omega : i = 1 ∨ i = 2) with rfl | rfl <;> decide
     clear hs1 hs2 hs3 h0
     go_wp2_with fail
     go_loopw [8, 9, 41] (fun u8 _ u41 wx => ∃ (k n : Nat), u41 = .int .i64 k ∧ u8 = .int .i64 n ∧ k ≤ P.size ∧ Hid (((bsO P).take k).all digC = true) ∧ Hid (n = decV ((bsO P).take k)) ∧ wx = wr) (fun _ _ u _ => P.size - (intOf u).toNat)
     case atStart => exact ⟨0, 0, rfl, rfl, Nat.zero_le _, Lib.hid rfl, Lib.hid rfl, rfl⟩
     case round =>
      obtain ⟨k, n, rfl, rfl, hk, HD, HV, hw⟩ := hrel
      rw [hw]
      clear hw
      have hn9 := HDB.out (by rw [bs_len]; exact HS2.out) k HD.out
      rw [← HV.out] at hn9
      have hnb : (n : Int) ≤ 99 := by omega
      have hkb : (k : Int) ≤ 2 := by have := HS2.out; omega
      by_cases hkt : k < P.size
      ·cases hd : digC P[k] with
       | false =>
        have HNO := Lib.hid (HBAD.out (okP_no fun q => not_dig hd ((q.2 HI0.out).2.1)))
        go_wp2_with (first | (go_at_call 130; refine (digit_any _ _).mono ?_; rintro e w' ⟨rfl, rfl⟩) | (fail))
        go_ret2
        exact ⟨span_ret HP.out HNO.out, HBW.out⟩
       | true =>
        have hd1 : 48 ≤ (P[k].toNat : Int) := by have := dig_of hd; omega
        have hd2 : (P[k].toNat : Int) ≤ 57 := by have := dig_of hd; omega
        have HT2 : Hid (((10 * n + (P[k].toNat - 48) : Nat)) = decV ((bsO P).take (k + 1))) := by
         rw [take_dig hkt, ← HV.out]
         exact Lib.hid rfl
        have HD2 : Hid (((bsO P).take (k + 1)).all digC = true) := by
         rw [List.take_add_one, List.getElem?_eq_getElem (by rw [bs_len]; exact hkt), bs_at P k hkt, List.all_append, HD.out]
         exact Lib.hid (by simp [hd])
        clear hn9
        go_wp2_with (first | (go_at_call 130; refine (digit_any _ _).mono ?_; rintro e w' ⟨rfl, rfl⟩) | (fail))
        go_roundw
        case rel => exact ⟨k + 1, 10 * n + (P[k].toNat - 48), by go_num, by congr 1; omega, by omega, HD2, HT2, by first | trivial | rfl⟩
        case measure => simp [intOf]; omega
      ·have hke : k = P.size := by omega
       have e : (bsO P).take k = bsO P := List.take_of_length_le (by rw [bs_len]; omega)
       rw [e] at HD HV
       clear e hn9
       by_cases hz : 59 < n
       ·have HNO := Lib.hid (HBAD.out (okP_no fun q => by have := (q.2 HI0.out).2.2; rw [← HV.out] at this; omega))
        have gz : (59 : Int) < n := by omega
        clear hz
        go_wp2_with fail
        go_ret2
        exact ⟨span_ret HP.out HNO.out, HBW.out⟩
       ·have HY := HNX.out (by
         unfold okP
         rw [if_neg HI0.out]
         exact (part_iff P).2 ⟨HS3.out, HD.out, by rw [← HV.out]; omega⟩)
        rw [← HV.out] at HY
        have HYY := Lib.hid HY
        have gz : ¬(59 : Int) < n := by omega
        have hmul : 0 ≤ (n : Int) * wtP i ∧ (n : Int) * wtP i ≤ 5940 := by
         refine ⟨Int.mul_nonneg (by omega) hw1, ?_⟩
         have := Int.mul_le_mul (show (n : Int) ≤ 99 by omega) hw2 hw1 (by omega)
         omega
        have hm1 := hmul.1
        have hm2 := hmul.2
        have HMU := Lib.hid hmul
        clear HY hz hmul
        go_wp2_with fail
        go_roundw
        case rel => exact ⟨i + 1, by go_num, by omega, by rw [HYY.out.2.1], HYY.out.2.2, by rw [HYY.out.2.1]; have := HMU.out; have := HT.out; exact ⟨by omega, by omega⟩, keepBelow HBr.out ((Below.refl _ _).alloc (Nat.le_refl _) _)⟩
        case measure => simp [intOf]; omega
    ·have HNO := Lib.hid (HBAD.out (okP_no fun q => hs3 (q.2 HI0.out).1))
     have gs3 : ((P.size : Int) != 2) = true := by simp; omega
     clear hs1 hs2 hs3
     go_wp2_with fail
     go_ret2
     exact ⟨span_ret HP.out HNO.out, HBW.out⟩
  ·have hie : i = LS.length := by omega
   obtain ⟨n, h1, h2⟩ := spanL_ok (LS := LS) HNE.out (by omega) (by rw [← hie]; exact HOK.out)
   rw [← hie] at h2
   have HNO : Hid (spanP (bsO s) = ((n : Int), true)) := Lib.hid (spanP_some (by rw [HLS.out]; exact h1))
   rw [h2]
   clear h1 h2
   go_wp2_with fail
   go_ret2
   exact ⟨span_ret HP.out HNO.out, keepBelow HB1.out HBr.out⟩
end Go.Proofs.YtmfdnbfjdhlonaaGreatDoor
namespace Go.Proofs.YtmfdnbfjdhlonaaGreatDoor
open Go.RowKit Wk

theorem idx_wsu (x : UInt8) (w : World) :
  Calls Tryz.prog 131 #[.string ⟨#[119, 115, 117]⟩, .int .u8 (x.toNat : Int)] w fun e w' => e = .returned (.int .i64 (if x = 119 then 0 else if x = 115 then 1 else if x = 117 then 2 else -1)) ∧ w' = w := by
 refine (Tryz.strings_IndexByte _ _ _).mono ?_
 rintro e w' ⟨rfl, rfl⟩
 refine ⟨?_, rfl⟩
 have : (x.toNat : Int).toNat.toUInt8 = x := by simp
 rw [this]
 have h : Lib.indexByte [119, 115, 117] x = if x = 119 then 0 else if x = 115 then 1 else if x = 117 then 2 else -1 := by
  by_cases h1 : x = 119
  ·subst h1; decide
  ·by_cases h2 : x = 115
   ·subst h2; decide
   ·by_cases h3 : x = 117
    ·subst h3; decide
    ·rw [if_neg h1, if_neg h2, if_neg h3]
     have hc := Lib.contains_iff_indexByte [119, 115, 117] x
     have hb : ([119, 115, 117] : List UInt8).contains x = false := by
      simp [h1, h2, h3]
     rw [hb] at hc
     have hlt : Lib.indexByte [119, 115, 117] x < 0 := by
      have := hc.symm
      rw [decide_eq_false_iff_not] at this
      omega
     have hge : -1 ≤ Lib.indexByte [119, 115, 117] x := Lib.indexByte_ge _ _
     omega
 show Ending.returned (.int .i64 (Lib.indexByte [119, 115, 117] x)) = _
 rw [h]
end Go.Proofs.YtmfdnbfjdhlonaaGreatDoor
namespace Go.Proofs.YtmfdnbfjdhlonaaGreatDoor
open Go.RowKit Wk

set_option maxRecDepth 100000 in
set_option maxHeartbeats 2000000 in
theorem clock_any (s : ByteArray) (hs : s.size < 4294967281) (w : World) (hg : Glob w) :
  Calls Tryz.prog 153 #[.string s] w fun e w' => e = .returned (.tuple #[.int .i64 (clockM (bsO s)).1, .int .i64 (clockM (bsO s)).2.1, .int .i64 (clockM (bsO s)).2.2]) ∧ Below w.heap.size w w' := by
 obtain ⟨n, hn⟩ : ∃ n, clockM (bsO s) = n := ⟨_, rfl⟩
 rw [hn]
 have HN := Lib.hid hn
 clear hn
 have HS2 := Lib.hid (span_any s hs w hg)
 go_enter Tryz.func153, Tryz.ntmps153
 by_cases h0 : 0 < s.size
 ·have hsi : (s.size : Int) ≤ 4294967280 := by omega
  have h1 : (1 : Int) ≤ s.size := by omega
  have gne : s.toList.isEmpty = false := by
   have : ¬s.toList = [] := fun q => by have := (toList_nil s).1 q; omega
   simpa using this
  have hlt : s.size - 1 < s.size := by omega
  have hl := last_at s h0
  obtain ⟨x, hx⟩ : ∃ x, s[s.size - 1]'(by omega) = x := ⟨_, rfl⟩
  rw [hx] at hl
  obtain ⟨T, hT⟩ : ∃ T, s.extract 0 (s.size - 1) = T := ⟨_, rfl⟩
  have hTb : (bsO s).dropLast = bsO T := by
   rw [← hT, bs_ext, List.drop_zero, List.dropLast_eq_take, bs_len]
  have hts : T.size < 4294967281 := by
   have h := congrArg List.length (bs_ext s 0 (s.size - 1))
   rw [hT, bs_len, List.drop_zero, List.length_take, bs_len] at h
   omega
  have HIX := Lib.hid (idx_wsu x)
  have HTS : Hid (∀ w', Below w.heap.size w w' → Calls Tryz.prog 173 #[.string T] w' fun e w'' => e = .returned (.tuple #[.int .i64 (spanP (bsO T)).1, .bool (spanP (bsO T)).2]) ∧ Below w'.heap.size w' w'') := Lib.hid fun w' hb => span_any T hts w' (hg.below hb)
  have hwr : IntKind.i64.wrap ((s.size : Int) - 1) = (s.size : Int) - 1 := by rw [IntKind.wrap_i64]; omega
  have htn : ((s.size : Int) - 1).toNat = s.size - 1 := by omega
  by_cases h119 : x = 119
  ·have HK : Hid (clkCut (bsO s) = bsO T ∧ clkOf (bsO s) = 1) := by
    refine Lib.hid ?_
    unfold clkCut clkOf
    rw [hl, h119]
    exact ⟨hTb, rfl⟩
   have hix : (if x = 119 then (0 : Int) else if x = 115 then 1 else if x = 117 then 2 else -1) = 0 := by rw [h119]; rfl
   rw [hix] at HIX
   have hnw : ∀ X : World, (X.alloc (.cells #[.int .i64 1, .int .i64 2, .int .i64 3] 3)).cell? ⟨X.heap.size, 0, none⟩ = some (.int .i64 1) := fun X => by simp [go_sem]
   clear hl hTb hix h119
   go_upto_region 5 with (first | (go_at_call 131; refine (HIX.out _).mono ?_; rintro e w' ⟨rfl, hw⟩; rw [hw]; clear hw) | fail)
   go_cut [0, 3] (fun u0 u3 wx => u0 = .string T ∧ u3 = .int .i64 1 ∧ Hid (Below w.heap.size w wx))
   case first =>
    go_region
    all_goals go_wp2_with fail
    all_goals go_meet
    all_goals (case rel => exact ⟨by first | rfl | rw [hT], rfl, by first | exact ((Below.refl _ _).drew).alloc (Nat.le_refl _) _ | exact ((Below.refl _ _).alloc (Nat.le_refl _) _).drew⟩)
   case rest =>
   obtain ⟨rfl, rfl, HBc⟩ := hcut
   have HSc := Lib.hid (HTS.out _ HBc.out)
   generalize wc = V at *
   clear HTS HS2 HIX hnw hT hx
   go_wp2_with (first | (go_at_call 173; refine HSc.out.mono ?_; rintro e w' ⟨rfl, hb⟩) | (fail))
   all_goals go_ret3
   all_goals refine ⟨clk_ret HN.out (clk_of HK.out.1 HK.out.2 ?_), keepBelow HBc.out (by assumption)⟩
   ·exact .inl ⟨by simpa using (by assumption : (!(spanP (bsO T)).2) = true), rfl⟩
   ·exact .inr (.inl ⟨by simpa using (by assumption : (!(spanP (bsO T)).2) = false), by assumption, rfl⟩)
   ·exact .inr (.inr ⟨by simpa using (by assumption : (!(spanP (bsO T)).2) = false), by omega, rfl⟩)
  ·skip
   by_cases h115 : x = 115
   ·have HK : Hid (clkCut (bsO s) = bsO T ∧ clkOf (bsO s) = 2) := by
     refine Lib.hid ?_
     unfold clkCut clkOf
     rw [hl, h115]
     exact ⟨hTb, rfl⟩
    have hix : (if x = 119 then (0 : Int) else if x = 115 then 1 else if x = 117 then 2 else -1) = 1 := by rw [h115]; rfl
    rw [hix] at HIX
    have hnw : ∀ X : World, (X.alloc (.cells #[.int .i64 1, .int .i64 2, .int .i64 3] 3)).cell? ⟨X.heap.size, 1, none⟩ = some (.int .i64 2) := fun X => by simp [go_sem]
    clear hl hTb hix h115
    go_upto_region 5 with (first | (go_at_call 131; refine (HIX.out _).mono ?_; rintro e w' ⟨rfl, hw⟩; rw [hw]; clear hw) | fail)
    go_cut [0, 3] (fun u0 u3 wx => u0 = .string T ∧ u3 = .int .i64 2 ∧ Hid (Below w.heap.size w wx))
    case first =>
     go_region
     all_goals go_wp2_with fail
     all_goals go_meet
     all_goals (case rel => exact ⟨by first | rfl | rw [hT], rfl, by first | exact ((Below.refl _ _).drew).alloc (Nat.le_refl _) _ | exact ((Below.refl _ _).alloc (Nat.le_refl _) _).drew⟩)
    case rest =>
    obtain ⟨rfl, rfl, HBc⟩ := hcut
    have HSc := Lib.hid (HTS.out _ HBc.out)
    generalize wc = V at *
    clear HTS HS2 HIX hnw hT hx
    go_wp2_with (first | (go_at_call 173; refine HSc.out.mono ?_; rintro e w' ⟨rfl, hb⟩) | (fail))
    all_goals go_ret3
    all_goals refine ⟨clk_ret HN.out (clk_of HK.out.1 HK.out.2 ?_), keepBelow HBc.out (by assumption)⟩
    ·exact .inl ⟨by simpa using (by assumption : (!(spanP (bsO T)).2) = true), rfl⟩
    ·exact .inr (.inl ⟨by simpa using (by assumption : (!(spanP (bsO T)).2) = false), by assumption, rfl⟩)
    ·exact .inr (.inr ⟨by simpa using (by assumption : (!(spanP (bsO T)).2) = false), by omega, rfl⟩)
   ·skip
    by_cases h117 : x = 117
    ·have HK : Hid (clkCut (bsO s) = bsO T ∧ clkOf (bsO s) = 3) := by
      refine Lib.hid ?_
      unfold clkCut clkOf
      rw [hl, h117]
      exact ⟨hTb, rfl⟩
     have hix : (if x = 119 then (0 : Int) else if x = 115 then 1 else if x = 117 then 2 else -1) = 2 := by rw [h117]; rfl
     rw [hix] at HIX
     have hnw : ∀ X : World, (X.alloc (.cells #[.int .i64 1, .int .i64 2, .int .i64 3] 3)).cell? ⟨X.heap.size, 2, none⟩ = some (.int .i64 3) := fun X => by simp [go_sem]
     clear hl hTb hix h117
     go_upto_region 5 with (first | (go_at_call 131; refine (HIX.out _).mono ?_; rintro e w' ⟨rfl, hw⟩; rw [hw]; clear hw) | fail)
     go_cut [0, 3] (fun u0 u3 wx => u0 = .string T ∧ u3 = .int .i64 3 ∧ Hid (Below w.heap.size w wx))
     case first =>
      go_region
      all_goals go_wp2_with fail
      all_goals go_meet
      all_goals (case rel => exact ⟨by first | rfl | rw [hT], rfl, by first | exact ((Below.refl _ _).drew).alloc (Nat.le_refl _) _ | exact ((Below.refl _ _).alloc (Nat.le_refl _) _).drew⟩)
     case rest =>
     obtain ⟨rfl, rfl, HBc⟩ := hcut
     have HSc := Lib.hid (HTS.out _ HBc.out)
     generalize wc = V at *
     clear HTS HS2 HIX hnw hT hx
     go_wp2_with (first | (go_at_call 173; refine HSc.out.mono ?_; rintro e w' ⟨rfl, hb⟩) | (fail))
     all_goals go_ret3
     all_goals refine ⟨clk_ret HN.out (clk_of HK.out.1 HK.out.2 ?_), keepBelow HBc.out (by assumption)⟩
     ·exact .inl ⟨by simpa using (by assumption : (!(spanP (bsO T)).2) = true), rfl⟩
     ·exact .inr (.inl ⟨by simpa using (by assumption : (!(spanP (bsO T)).2) = false), by assumption, rfl⟩)
     ·exact .inr (.inr ⟨by simpa using (by assumption : (!(spanP (bsO T)).2) = false), by omega, rfl⟩)
    ·skip
     have HK : Hid (clkCut (bsO s) = bsO s ∧ clkOf (bsO s) = 1) := by
      refine Lib.hid ?_
      unfold clkCut clkOf
      rw [hl]
      constructor
      ·split
       ·rename_i q; injection q with q; exact absurd q h119
       ·rename_i q; injection q with q; exact absurd q h115
       ·rename_i q; injection q with q; exact absurd q h117
       ·rfl
      ·split
       ·rename_i q; injection q with q; exact absurd q h115
       ·rename_i q; injection q with q; exact absurd q h117
       ·rfl
     have hix : (if x = 119 then (0 : Int) else if x = 115 then 1 else if x = 117 then 2 else -1) = -1 := by rw [if_neg h119, if_neg h115, if_neg h117]
     rw [hix] at HIX
     clear hl hTb hix h119 h115 h117
     go_wp2_with (first | (go_at_call 131; refine (HIX.out _).mono ?_; rintro e w' ⟨rfl, rfl⟩) | (go_at_call 173; refine HS2.out.mono ?_; rintro e w' ⟨rfl, hb⟩) | (fail))
     all_goals go_ret3
     all_goals refine ⟨clk_ret HN.out (clk_of HK.out.1 HK.out.2 ?_), by assumption⟩
     ·exact .inl ⟨by simpa using (by assumption : (!(spanP (bsO s)).2) = true), rfl⟩
     ·exact .inr (.inl ⟨by simpa using (by assumption : (!(spanP (bsO s)).2) = false), by assumption, rfl⟩)
     ·exact .inr (.inr ⟨by simpa using (by assumption : (!(spanP (bsO s)).2) = false), by omega, rfl⟩)
 ·have HK : Hid (clkCut (bsO s) = bsO s ∧ clkOf (bsO s) = 1) := by
   refine Lib.hid ?_
   have e : bsO s = [] := List.eq_nil_of_length_eq_zero (by rw [bs_len]; omega)
   rw [e]
   exact ⟨rfl, rfl⟩
  have gne : s.toList.isEmpty = true := by
   have : s.toList = [] := (toList_nil s).2 (by omega)
   rw [this]; rfl
  clear h0
  go_wp2_with (first | (go_at_call 173; refine HS2.out.mono ?_; rintro e w' ⟨rfl, hb⟩) | (fail))
  all_goals go_ret3
  all_goals refine ⟨clk_ret HN.out (clk_of HK.out.1 HK.out.2 ?_), by assumption⟩
  ·exact .inl ⟨by simpa using (by assumption : (!(spanP (bsO s)).2) = true), rfl⟩
  ·exact .inr (.inl ⟨by simpa using (by assumption : (!(spanP (bsO s)).2) = false), by assumption, rfl⟩)
  ·exact .inr (.inr ⟨by simpa using (by assumption : (!(spanP (bsO s)).2) = false), by omega, rfl⟩)
end Go.Proofs.YtmfdnbfjdhlonaaGreatDoor
namespace Go.Proofs.YtmfdnbfjdhlonaaGreatDoor
open Go.RowKit Wk Go.Maps

end Go.Proofs.YtmfdnbfjdhlonaaGreatDoor
