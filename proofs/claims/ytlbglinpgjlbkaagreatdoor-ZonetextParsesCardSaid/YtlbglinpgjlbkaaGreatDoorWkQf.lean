import Derived.Test.YtlbglinpgjlbkaaGreatDoorWkQe
/- Zone texts: the reference's values of digits. -/
namespace Go.Proofs.YtlbglinpgjlbkaaGreatDoor
open Go.RowKit Wk

theorem decV_dig : ∀ (l : Bs), l.length ≤ 2 → l.all digC = true → decV l ≤ 99 ∧ (l.length ≤ 1 → decV l ≤ 9)
 | [], _, _ => by simp [decV, decF]
 | [a], _, h => by
  simp only [List.all_cons, Bool.and_eq_true] at h
  have := dig_of h.1
  simp [decV, decF]
  omega
 | [a, b], _, h => by
  simp only [List.all_cons, Bool.and_eq_true] at h
  have := dig_of h.1
  have := dig_of h.2.1
  rw [decV_two]
  unfold sixV
  simp
  omega
 | a :: b :: c :: r, h, _ => by simp at h
theorem dig_at {s : ByteArray} (h : (bsO s).all digC = true) {k : Nat} (hk : k < s.size) : digC s[k] = true := by
 have := List.all_eq_true.1 h s[k] (by rw [← bs_at s k hk]; exact List.getElem_mem _)
 exact this
set_option maxHeartbeats 1000000 in
theorem value18_any (s : ByteArray) (h2 : s.size ≤ 2) (hd : (bsO s).all digC = true) (w : World) :
  Calls Tryz.prog 240 #[.string s, .int .i64 1000] w fun e w' => e = .returned (.int .i64 (decV (bsO s) : Int)) ∧ w' = w := by
 have HD := Lib.hid hd
 clear hd
 go_enter Tryz.func240, Tryz.ntmps240
 go_wp2_with fail
 go_loopw [5, 6] (fun vn vk wr => ∃ (k n : Nat), vk = .int .i64 k ∧ vn = .int .i64 n ∧ k ≤ s.size ∧ Hid (n = decV ((bsO s).take k)) ∧ wr = w) (fun _ u _ => s.size - (intOf u).toNat)
 case atStart => exact ⟨0, 0, rfl, rfl, Nat.zero_le _, Lib.hid rfl, rfl⟩
 case round =>
  obtain ⟨k, n, rfl, rfl, hk, HN, hw⟩ := hrel
  rw [hw]
  clear hw
  have hkb : (k : Int) ≤ 2 := by omega
  have hda : ((bsO s).take k).all digC = true := by
   have := HD.out
   rw [List.all_eq_true] at this ⊢
   exact fun x hx => this x (List.mem_of_mem_take hx)
  have hl : ((bsO s).take k).length = k := by
   rw [List.length_take, bs_len]
   omega
  obtain ⟨b1, b2⟩ := decV_dig _ (by omega) hda
  rw [← HN.out] at b1 b2
  have b3 : (n : Int) ≤ 99 := by omega
  by_cases hlt : k < s.size
  ·have hd := dig_at HD.out hlt
   have hd1 : 48 ≤ (s[k].toNat : Int) := by have := dig_of hd; omega
   have hd2 : (s[k].toNat : Int) ≤ 57 := by have := dig_of hd; omega
   have HT : Hid (((10 * n + (s[k].toNat - 48) : Nat)) = decV ((bsO s).take (k + 1))) := by
    rw [take_dig hlt, ← HN.out]
    exact Lib.hid rfl
   clear hda hl b1 b2 hd
   go_wp2_with fail
   go_roundw
   case rel => exact ⟨k + 1, 10 * n + (s[k].toNat - 48), by go_num, by congr 1; omega, by omega, HT, by first | trivial | rfl⟩
   case measure => simp [intOf]; omega
  ·obtain rfl : k = s.size := by omega
   have e : (bsO s).take s.size = bsO s := List.take_of_length_le (by rw [bs_len]; exact Nat.le_refl _)
   rw [e] at HN
   clear hda hl b1 b2
   go_wp2_with fail
   go_ret
   rw [← HN.out]
   exact ⟨rfl, rfl⟩
set_option maxHeartbeats 1000000 in
theorem sixty18_any (s : ByteArray) (w : World) :
  Calls Tryz.prog 241 #[.string s] w fun e w' => e = .returned (.bool (partB (bsO s))) ∧ w' = w := by
 obtain ⟨r, hr⟩ : ∃ r, partB (bsO s) = r := ⟨_, rfl⟩
 rw [hr]
 have HR : Hid (partB (bsO s) = r) := Lib.hid hr
 clear hr
 go_enter Tryz.func241, Tryz.ntmps241
 by_cases h2 : s.size = 2
 ·have g2 : ((s.size : Int) == 2) = true := by rw [h2]; rfl
  have hp : partB (bsO s) = sixB s[0] s[1] := by
   have e : bsO s = [s[0], s[1]] := by
    refine List.ext_getElem ((bs_len s).trans h2) fun i hi hi2 => ?_
    have hi3 : i < s.size := by rw [bs_len] at hi; exact hi
    rw [bs_at s i hi3]
    rcases (by omega : i = 0 ∨ i = 1) with rfl | rfl <;> rfl
   rw [e, part_two]
  rw [hp] at HR
  have q0 : 0 < s.size := by omega
  have q1 : 1 < s.size := by omega
  cases hd0 : digC s[0] with
  | false =>
   go_wp2_with (first | (go_at_call 174; refine (digit18_any _ _).mono ?_; rintro e w' ⟨rfl, rfl⟩) | (fail))
   go_ret
   refine ⟨ret_bool ?_, rfl⟩
   rw [← HR.out]
   unfold sixB
   rw [hd0]
   rfl
  | true =>
   cases hd1 : digC s[1] with
   | false =>
    go_wp2_with (first | (go_at_call 174; refine (digit18_any _ _).mono ?_; rintro e w' ⟨rfl, rfl⟩) | (fail))
    go_ret
    refine ⟨ret_bool ?_, rfl⟩
    rw [← HR.out]
    unfold sixB
    rw [hd0, hd1]
    rfl
   | true =>
    go_wp2_with (first | (go_at_call 174; refine (digit18_any _ _).mono ?_; rintro e w' ⟨rfl, rfl⟩) | (fail))
    go_ret
    refine ⟨ret_bool ?_, rfl⟩
    rw [← HR.out]
    unfold sixB
    rw [hd0, hd1]
    rw [Bool.eq_iff_iff]
    simp
    try omega
 ·have g2 : ((s.size : Int) == 2) = false := by simp; omega
  have hp := part_len (p := bsO s) (by rw [bs_len]; exact h2)
  go_wp2_with fail
  go_ret
  exact ⟨ret_bool (by rw [← HR.out, hp]), rfl⟩
end Go.Proofs.YtlbglinpgjlbkaaGreatDoor
namespace Go.Proofs.YtlbglinpgjlbkaaGreatDoor
open Go.RowKit Wk

theorem tw_len (s : ByteArray) {k : Nat} (hk : k ≤ s.size) (h : ∀ j (hj : j < s.size), j < k → (s[j].toNat : Int) ≠ 58) (he : ∀ hj : k < s.size, (s[k].toNat : Int) = 58) : (bsO s).takeWhile (· != 58) = (bsO s).take k ∧ (bsO s).dropWhile (· != 58) = (bsO s).drop k := by
 have key : ∀ (l : Bs) (k : Nat), k ≤ l.length → (∀ j (hj : j < l.length), j < k → l[j] ≠ 58) → (∀ hj : k < l.length, l[k] = 58) → l.takeWhile (· != 58) = l.take k ∧ l.dropWhile (· != 58) = l.drop k := fun l => by
  induction l with
  | nil => intro k _ _ _; simp
  | cons c r ih =>
   intro k hk h he
   cases k with
   | zero =>
    have : c = 58 := he (by simp)
    subst this
    simp
   | succ k =>
    have hc : c ≠ 58 := h 0 (by simp) (by omega)
    have hb : (c != 58) = true := by simpa using hc
    obtain ⟨i1, i2⟩ := ih k (by simpa using hk) (fun j hj hlt => h (j + 1) (by simpa using hj) (by omega)) (fun hj => he (by simpa using hj))
    rw [List.takeWhile_cons_of_pos (p := (· != 58)) hb, List.dropWhile_cons_of_pos (p := (· != 58)) hb, i1, i2]
    exact ⟨rfl, rfl⟩
 have hn : ∀ x : UInt8, ((x.toNat : Int) = 58 ↔ x = 58) := fun x => toNat_ne (x := x) (n := 58) (by omega)
 refine key (bsO s) k (by rw [bs_len]; exact hk) (fun j hj hlt => ?_) (fun hj => ?_)
 ·rw [bs_len] at hj
  rw [bs_at s j hj]
  exact fun q => h j hj hlt ((hn _).2 q)
 ·rw [bs_len] at hj
  rw [bs_at s k hj]
  exact (hn _).1 (he hj)
theorem spanTl_3 (H : Nat) (x a b : UInt8) : spanTl H [x, a, b] = if sixB a b = true then some (H + 60 * sixV a b) else none := rfl
theorem spanTl_6 (H : Nat) (x a b c d e : UInt8) : spanTl H [x, a, b, c, d, e] = if (sixB a b && c == 58 && sixB d e) = true then some (H + 60 * sixV a b + sixV d e) else none := rfl
theorem spanTl_no {H : Nat} {t : Bs} (h0 : t.length ≠ 0) (h3 : t.length ≠ 3) (h6 : t.length ≠ 6) : spanTl H t = none := by
 match t, h0, h3, h6 with
 | [_], _, _, _ => rfl
 | [_, _], _, _, _ => rfl
 | [_, _, _, _], _, _, _ => rfl
 | [_, _, _, _, _], _, _, _ => rfl
 | _ :: _ :: _ :: _ :: _ :: _ :: _ :: _, _, _, _ => rfl
structure Hid' (p : Prop) : Prop where
 out : p
def spanP (s : Bs) : Int × Bool := match spanM s with
 | some n => (n, true)
 | none => (0, false)
theorem span_ret {s : Bs} {p : Int × Bool} {a : Int} {b : Bool} (h : spanP s = p) (h2 : spanP s = (a, b)) : Ending.returned (.tuple #[.int .i64 a, .bool b]) = .returned (.tuple #[.int .i64 p.1, .bool p.2]) := by
 rw [← h, h2]
theorem len3 {T : ByteArray} (h : T.size = 3) : ∃ x a b, bsO T = [x, a, b] := by
 have := bs_len T
 rw [h] at this
 match hb : bsO T, this with
 | [x, a, b], _ => exact ⟨x, a, b, rfl⟩
theorem len6 {T : ByteArray} (h : T.size = 6) : ∃ x a b c d e, bsO T = [x, a, b, c, d, e] := by
 have := bs_len T
 rw [h] at this
 match hb : bsO T, this with
 | [x, a, b, c, d, e], _ => exact ⟨x, a, b, c, d, e, rfl⟩
theorem six_dig {l : Bs} (h : (match l with | [x, y] => sixB x y | _ => false) = true) : l.all digC = true := by
 match l, h with
 | [x, y], h =>
  unfold sixB at h
  simp only [Bool.and_eq_true] at h
  simp [h.1.1, h.1.2]
set_option maxHeartbeats 4000000 in
theorem span18_any (s : ByteArray) (hs : s.size < 4294967281) (w : World) :
  Calls Tryz.prog 220 #[.string s] w fun e w' => e = .returned (.tuple #[.int .i64 (spanP (bsO s)).1, .bool (spanP (bsO s)).2]) ∧ w' = w := by
 obtain ⟨p, hp⟩ : ∃ p, spanP (bsO s) = p := ⟨_, rfl⟩
 rw [hp]
 have HP := Lib.hid hp
 clear hp
 go_enter Tryz.func220, Tryz.ntmps220
 go_wp2_with fail
 go_loopw [4] (fun u wr => ∃ k : Nat, u = .int .i64 k ∧ k ≤ s.size ∧ Hid (∀ j (hj : j < s.size), j < k → (s[j].toNat : Int) ≠ 58) ∧ wr = w) (fun u _ => s.size - (intOf u).toNat)
 case atStart => exact ⟨0, rfl, Nat.zero_le _, fun j _ h => by omega, rfl⟩
 case round =>
  obtain ⟨k, rfl, hk, HZ, hw⟩ := hrel
  rw [hw]
  clear hw
  have hkb : (k : Int) ≤ 4294967280 := by omega
  by_cases hgo : ∃ hj : k < s.size, (s[k].toNat : Int) ≠ 58
  ·obtain ⟨hlt, hne⟩ := hgo
   have g1 : ((s[k].toNat : Int) != 58) = true := by simpa using hne
   have HN : Hid ((s[k].toNat : Int) ≠ 58) := hne
   clear hne
   go_wp2_with fail
   go_roundw
   case rel =>
    refine ⟨k + 1, by go_num, by omega, fun j hj hjk => ?_, by first | trivial | rfl⟩
    rcases Nat.lt_or_ge j k with q | q
    ·exact HZ.out j hj q
    ·obtain rfl : j = k := by omega
     exact HN.out
   case measure => simp [intOf]; omega
  ·obtain ⟨t1, t2⟩ := tw_len s hk HZ.out (fun hj => by
    refine Decidable.byContradiction fun q => hgo ⟨hj, q⟩)
   obtain ⟨U, hU⟩ : ∃ U, s.extract 0 k = U := ⟨_, rfl⟩
   obtain ⟨T, hT⟩ : ∃ T, s.extract k s.size = T := ⟨_, rfl⟩
   have HU : Hid (bsO U = (bsO s).takeWhile (· != 58)) := Lib.hid (by rw [← hU, bs_ext, t1, List.drop_zero])
   have HT : Hid (bsO T = (bsO s).dropWhile (· != 58)) := Lib.hid (by rw [← hT, bs_ext, t2, List.take_of_length_le (by rw [bs_len]; exact Nat.le_refl _)])
   have uk : U.size = k := by
    have := congrArg List.length HU.out
    rw [bs_len, t1, List.length_take, bs_len] at this
    omega
   have tk : T.size = s.size - k := by
    have := congrArg List.length HT.out
    rw [bs_len, t2, List.length_drop, bs_len] at this
    exact this
   have HTk := Lib.hid tk
   clear t1 t2 tk
   have HS : Hid' (spanM (bsO s) = if hourB (bsO U) = false then none else spanTl (3600 * decV (bsO U)) (bsO T)) := by
    refine ⟨?_⟩
    rw [HU.out, HT.out]
    exact span_tl (bsO s)
   by_cases hlt : k < s.size
   ·have g1 : ((s[k].toNat : Int) != 58) = false := by
     have : (s[k].toNat : Int) = 58 := Decidable.byContradiction fun q => hgo ⟨hlt, q⟩
     simpa using this
    clear hgo
    cases hw1 : wholeB (bsO U) with
    | false =>
     go_wp2_with (first | (go_at_call 188; refine (whole18_any _ (by omega) _).mono ?_; rintro e w' ⟨rfl, rfl⟩) | (go_at_call 240; (first | (with_reducible refine (HVU.out _).mono ?_) | (with_reducible refine (HVM.out _).mono ?_) | (with_reducible refine (HVS.out _).mono ?_)); rintro e w' ⟨rfl, rfl⟩) | (go_at_call 241; refine (sixty18_any _ _).mono ?_; rintro e w' ⟨rfl, rfl⟩) | (fail))
     go_ret2
     exact ⟨span_ret HP.out (by unfold spanP; rw [HS.out]; rw [if_pos (by unfold hourB; rw [hw1]; rfl)]), rfl⟩
    | true =>
     by_cases hk2 : k ≤ 2
     ·have hk3 : (k : Int) ≤ 2 := by omega
      have hdU : (bsO U).all digC = true := (whole_iff.1 hw1).2.1
      have hh : hourB (bsO U) = true := by
       unfold hourB
       rw [hw1, bs_len]
       simp
       omega
      rw [hh, if_neg (by simp)] at HS
      obtain ⟨v1, v2⟩ := decV_dig (bsO U) (by rw [bs_len]; omega) hdU
      obtain ⟨vu, hvu⟩ : ∃ v, decV (bsO U) = v := ⟨_, rfl⟩
      have HVU : Hid (∀ w', Calls Tryz.prog 240 #[.string U, .int .i64 1000] w' fun e w'' => e = .returned (.int .i64 (vu : Int)) ∧ w'' = w') := Lib.hid fun w' => by
       rw [← hvu]
       exact value18_any U (by omega) hdU w'
      rw [hvu] at HS v1
      have vb : (vu : Int) ≤ 99 := by omega
      clear v2 hvu
      clear hdU hh
      have g3 : ¬T.toList = [] := fun q => by have := (toList_nil T).1 q; have := HTk.out; omega
      have g4 : T.toList.isEmpty = false := by simpa using g3
      by_cases h3 : T.size = 3
      ·have g5 : ((T.size : Int) == 3) = true := by simp; omega
       have g6 : ((T.size : Int) == 6) = false := by simp; omega
       have g5' : ((T.size : Int) != 3) = false := by simp; omega
       obtain ⟨x, a, b, hl⟩ := len3 h3
       obtain ⟨M, hM⟩ : ∃ M, T.extract 1 3 = M := ⟨_, rfl⟩
       have HMb : bsO M = [a, b] := by rw [← hM, bs_ext, hl]; rfl
       have HP6 : partB (bsO M) = sixB a b := by rw [HMb, part_two]
       have m2 : M.size = 2 := by rw [← bs_len, HMb]; rfl
       rw [hl] at HS
       cases hx : sixB a b with
       | false =>
        rw [hx] at HP6
        clear hl HMb
        go_wp2_with (first | (go_at_call 188; refine (whole18_any _ (by omega) _).mono ?_; rintro e w' ⟨rfl, rfl⟩) | (go_at_call 240; (first | (with_reducible refine (HVU.out _).mono ?_) | (with_reducible refine (HVM.out _).mono ?_) | (with_reducible refine (HVS.out _).mono ?_)); rintro e w' ⟨rfl, rfl⟩) | (go_at_call 241; refine (sixty18_any _ _).mono ?_; rintro e w' ⟨rfl, rfl⟩) | (fail))
        go_ret2
        exact ⟨span_ret HP.out (by unfold spanP; rw [HS.out, spanTl_3, hx]; rfl), rfl⟩
       | true =>
        rw [hx] at HP6
        have hdM : (bsO M).all digC = true := six_dig (by rw [HMb]; exact hx)
        obtain ⟨vm, hvm⟩ : ∃ v, decV (bsO M) = v := ⟨_, rfl⟩
        have HVM : Hid (∀ w', Calls Tryz.prog 240 #[.string M, .int .i64 1000] w' fun e w'' => e = .returned (.int .i64 (vm : Int)) ∧ w'' = w') := Lib.hid fun w' => by
         rw [← hvm]
         exact value18_any M (by omega) hdM w'
        have hb9 := (decV_dig (bsO M) (by rw [bs_len]; omega) hdM).1
        rw [hvm] at hb9
        have vb9 : (vm : Int) ≤ 99 := by omega
        have hv6 : sixV a b = vm := by rw [← hvm, HMb, decV_two]
        have HV6 := Lib.hid hv6
        clear hl HMb hdM hvm hb9 hv6
        go_wp2_with (first | (go_at_call 188; refine (whole18_any _ (by omega) _).mono ?_; rintro e w' ⟨rfl, rfl⟩) | (go_at_call 240; (first | (with_reducible refine (HVU.out _).mono ?_) | (with_reducible refine (HVM.out _).mono ?_) | (with_reducible refine (HVS.out _).mono ?_)); rintro e w' ⟨rfl, rfl⟩) | (go_at_call 241; refine (sixty18_any _ _).mono ?_; rintro e w' ⟨rfl, rfl⟩) | (fail))
        go_ret2
        refine ⟨span_ret HP.out ?_, rfl⟩
        unfold spanP
        rw [HS.out, spanTl_3, if_pos hx, HV6.out]
        simp
      ·have g5' : ((T.size : Int) != 3) = true := by simp; omega
       by_cases h6 : T.size = 6
       ·have t4 : 4 ≤ T.size := by omega
        have g6 : ((T.size : Int) == 6) = true := by simp; omega
        have g6' : ((T.size : Int) != 6) = false := by simp; omega
        have g36 : 3 < T.size := by omega
        obtain ⟨x, a, b, c, d, e6, hl⟩ := len6 h6
        have hc : T[3] = c := by
         rw [← bs_at T 3 g36]
         simp only [hl]
         rfl
        obtain ⟨M, hM⟩ : ∃ M, T.extract 1 3 = M := ⟨_, rfl⟩
        obtain ⟨S, hS⟩ : ∃ S, T.extract 4 T.size = S := ⟨_, rfl⟩
        have hMb : bsO M = [a, b] := by rw [← hM, bs_ext, hl]; rfl
        have hSb : bsO S = [d, e6] := by rw [← hS, bs_ext, hl, h6]; rfl
        have HP6 : partB (bsO M) = sixB a b := by rw [hMb, part_two]
        have HP7 : partB (bsO S) = sixB d e6 := by rw [hSb, part_two]
        have m2 : M.size = 2 := by rw [← bs_len, hMb]; rfl
        have s2 : S.size = 2 := by rw [← bs_len, hSb]; rfl
        rw [hl] at HS
        have HMb := Lib.hid hMb
        have HSb := Lib.hid hSb
        have g37 : (3 : Int) < T.size := by omega
        clear hMb hSb
        clear h6 h3
        cases hx : sixB a b with
        | false =>
         rw [hx] at HP6
         clear hl hc
         go_wp2_with (first | (go_at_call 188; refine (whole18_any _ (by omega) _).mono ?_; rintro e w' ⟨rfl, rfl⟩) | (go_at_call 240; (first | (with_reducible refine (HVU.out _).mono ?_) | (with_reducible refine (HVM.out _).mono ?_) | (with_reducible refine (HVS.out _).mono ?_)); rintro e w' ⟨rfl, rfl⟩) | (go_at_call 241; refine (sixty18_any _ _).mono ?_; rintro e w' ⟨rfl, rfl⟩) | (fail))
         go_ret2
         exact ⟨span_ret HP.out (by unfold spanP; rw [HS.out, spanTl_6, hx]; rfl), rfl⟩
        | true =>
         rw [hx] at HP6
         have hdM : (bsO M).all digC = true := six_dig (by rw [HMb.out]; exact hx)
         obtain ⟨vm, hvm⟩ : ∃ v, decV (bsO M) = v := ⟨_, rfl⟩
         have HVM : Hid (∀ w', Calls Tryz.prog 240 #[.string M, .int .i64 1000] w' fun e w'' => e = .returned (.int .i64 (vm : Int)) ∧ w'' = w') := Lib.hid fun w' => by
          rw [← hvm]
          exact value18_any M (by omega) hdM w'
         have hb9 := (decV_dig (bsO M) (by rw [bs_len]; omega) hdM).1
         rw [hvm] at hb9
         have vb9 : (vm : Int) ≤ 99 := by omega
         have hv6 : sixV a b = vm := by rw [← hvm, HMb.out, decV_two]
         have HV6 := Lib.hid hv6
         cases h58 : (c == 58) with
         | false =>
          have g7 : ((T[3].toNat : Int) != 58) = true := by
           rw [hc]
           have : ¬(c.toNat : Int) = 58 := fun q => by
            rw [(toNat_ne (n := 58) (by omega)).1 q] at h58
            exact absurd h58 (by decide)
           simpa using this
          clear hl hc hdM hvm hb9 hv6
          go_wp2_with (first | (go_at_call 188; refine (whole18_any _ (by omega) _).mono ?_; rintro e w' ⟨rfl, rfl⟩) | (go_at_call 240; (first | (with_reducible refine (HVU.out _).mono ?_) | (with_reducible refine (HVM.out _).mono ?_) | (with_reducible refine (HVS.out _).mono ?_)); rintro e w' ⟨rfl, rfl⟩) | (go_at_call 241; refine (sixty18_any _ _).mono ?_; rintro e w' ⟨rfl, rfl⟩) | (fail))
          go_ret2
          exact ⟨span_ret HP.out (by unfold spanP; rw [HS.out, spanTl_6, h58, Bool.and_false, Bool.false_and]; rfl), rfl⟩
         | true =>
          have g7 : ((T[3].toNat : Int) != 58) = false := by
           rw [hc, beq_iff_eq.1 h58]
           rfl
          cases hy : sixB d e6 with
          | false =>
           rw [hy] at HP7
           clear hl hc hdM hvm hb9 hv6
           go_wp2_with (first | (go_at_call 188; refine (whole18_any _ (by omega) _).mono ?_; rintro e w' ⟨rfl, rfl⟩) | (go_at_call 240; (first | (with_reducible refine (HVU.out _).mono ?_) | (with_reducible refine (HVM.out _).mono ?_) | (with_reducible refine (HVS.out _).mono ?_)); rintro e w' ⟨rfl, rfl⟩) | (go_at_call 241; refine (sixty18_any _ _).mono ?_; rintro e w' ⟨rfl, rfl⟩) | (fail))
           go_ret2
           exact ⟨span_ret HP.out (by unfold spanP; rw [HS.out, spanTl_6, hy, Bool.and_false]; rfl), rfl⟩
          | true =>
           rw [hy] at HP7
           have hdS : (bsO S).all digC = true := six_dig (by rw [HSb.out]; exact hy)
           obtain ⟨vs, hvs⟩ : ∃ v, decV (bsO S) = v := ⟨_, rfl⟩
           have HVS : Hid (∀ w', Calls Tryz.prog 240 #[.string S, .int .i64 1000] w' fun e w'' => e = .returned (.int .i64 (vs : Int)) ∧ w'' = w') := Lib.hid fun w' => by
            rw [← hvs]
            exact value18_any S (by omega) hdS w'
           have hb8 := (decV_dig (bsO S) (by rw [bs_len]; omega) hdS).1
           rw [hvs] at hb8
           have vb8 : (vs : Int) ≤ 99 := by omega
           have hv7 : sixV d e6 = vs := by rw [← hvs, HSb.out, decV_two]
           have HV7 := Lib.hid hv7
           clear hl hc hdM hvm hb9 hv6 hdS hvs hb8 hv7
           go_wp2_with (first | (go_at_call 188; refine (whole18_any _ (by omega) _).mono ?_; rintro e w' ⟨rfl, rfl⟩) | (go_at_call 240; (first | (with_reducible refine (HVU.out _).mono ?_) | (with_reducible refine (HVM.out _).mono ?_) | (with_reducible refine (HVS.out _).mono ?_)); rintro e w' ⟨rfl, rfl⟩) | (go_at_call 241; refine (sixty18_any _ _).mono ?_; rintro e w' ⟨rfl, rfl⟩) | (fail))
           go_ret2
           refine ⟨span_ret HP.out ?_, rfl⟩
           unfold spanP
           rw [HS.out, spanTl_6, hx, h58, hy, HV6.out, HV7.out]
           simp
       ·have g6 : ((T.size : Int) == 6) = false := by simp; omega
        have g6' : ((T.size : Int) != 6) = true := by simp; omega
        have hTz : T.size ≠ 0 := by have := HTk.out; omega
        go_wp2_with (first | (go_at_call 188; refine (whole18_any _ (by omega) _).mono ?_; rintro e w' ⟨rfl, rfl⟩) | (go_at_call 240; (first | (with_reducible refine (HVU.out _).mono ?_) | (with_reducible refine (HVM.out _).mono ?_) | (with_reducible refine (HVS.out _).mono ?_)); rintro e w' ⟨rfl, rfl⟩) | (go_at_call 241; refine (sixty18_any _ _).mono ?_; rintro e w' ⟨rfl, rfl⟩) | (fail))
        go_ret2
        exact ⟨span_ret HP.out (by unfold spanP; rw [HS.out, spanTl_no (by rw [bs_len]; exact hTz) (by rw [bs_len]; exact h3) (by rw [bs_len]; exact h6)]), rfl⟩
     ·have hk3 : ¬(k : Int) ≤ 2 := by omega
      go_wp2_with (first | (go_at_call 188; refine (whole18_any _ (by omega) _).mono ?_; rintro e w' ⟨rfl, rfl⟩) | (go_at_call 240; (first | (with_reducible refine (HVU.out _).mono ?_) | (with_reducible refine (HVM.out _).mono ?_) | (with_reducible refine (HVS.out _).mono ?_)); rintro e w' ⟨rfl, rfl⟩) | (go_at_call 241; refine (sixty18_any _ _).mono ?_; rintro e w' ⟨rfl, rfl⟩) | (fail))
      go_ret2
      exact ⟨span_ret HP.out (by unfold spanP; rw [HS.out]; rw [if_pos (by unfold hourB; rw [bs_len, decide_eq_false (by omega), Bool.and_false])]), rfl⟩
   ·clear hgo
    cases hw1 : wholeB (bsO U) with
    | false =>
     go_wp2_with (first | (go_at_call 188; refine (whole18_any _ (by omega) _).mono ?_; rintro e w' ⟨rfl, rfl⟩) | (go_at_call 240; (first | (with_reducible refine (HVU.out _).mono ?_) | (with_reducible refine (HVM.out _).mono ?_) | (with_reducible refine (HVS.out _).mono ?_)); rintro e w' ⟨rfl, rfl⟩) | (go_at_call 241; refine (sixty18_any _ _).mono ?_; rintro e w' ⟨rfl, rfl⟩) | (fail))
     go_ret2
     exact ⟨span_ret HP.out (by unfold spanP; rw [HS.out]; rw [if_pos (by unfold hourB; rw [hw1]; rfl)]), rfl⟩
    | true =>
     by_cases hk2 : k ≤ 2
     ·have hk3 : (k : Int) ≤ 2 := by omega
      have hdU : (bsO U).all digC = true := (whole_iff.1 hw1).2.1
      have hh : hourB (bsO U) = true := by
       unfold hourB
       rw [hw1, bs_len]
       simp
       omega
      rw [hh, if_neg (by simp)] at HS
      obtain ⟨v1, v2⟩ := decV_dig (bsO U) (by rw [bs_len]; omega) hdU
      obtain ⟨vu, hvu⟩ : ∃ v, decV (bsO U) = v := ⟨_, rfl⟩
      have HVU : Hid (∀ w', Calls Tryz.prog 240 #[.string U, .int .i64 1000] w' fun e w'' => e = .returned (.int .i64 (vu : Int)) ∧ w'' = w') := Lib.hid fun w' => by
       rw [← hvu]
       exact value18_any U (by omega) hdU w'
      rw [hvu] at HS v1
      have vb : (vu : Int) ≤ 99 := by omega
      clear v2 hvu
      have hT0 : bsO T = [] := List.eq_nil_of_length_eq_zero (by have := HTk.out; rw [bs_len]; omega)
      have g3 : T.toList = [] := (toList_nil T).2 (by have := HTk.out; omega)
      have g4 : T.toList.isEmpty = true := by rw [g3]; rfl
      rw [hT0] at HS
      clear hdU hh hT0
      go_wp2_with (first | (go_at_call 188; refine (whole18_any _ (by omega) _).mono ?_; rintro e w' ⟨rfl, rfl⟩) | (go_at_call 240; (first | (with_reducible refine (HVU.out _).mono ?_) | (with_reducible refine (HVM.out _).mono ?_) | (with_reducible refine (HVS.out _).mono ?_)); rintro e w' ⟨rfl, rfl⟩) | (go_at_call 241; refine (sixty18_any _ _).mono ?_; rintro e w' ⟨rfl, rfl⟩) | (fail))
      go_ret2
      exact ⟨span_ret HP.out (by unfold spanP; rw [HS.out]; unfold spanTl; simp), rfl⟩
     ·have hk3 : ¬(k : Int) ≤ 2 := by omega
      go_wp2_with (first | (go_at_call 188; refine (whole18_any _ (by omega) _).mono ?_; rintro e w' ⟨rfl, rfl⟩) | (go_at_call 240; (first | (with_reducible refine (HVU.out _).mono ?_) | (with_reducible refine (HVM.out _).mono ?_) | (with_reducible refine (HVS.out _).mono ?_)); rintro e w' ⟨rfl, rfl⟩) | (go_at_call 241; refine (sixty18_any _ _).mono ?_; rintro e w' ⟨rfl, rfl⟩) | (fail))
      go_ret2
      exact ⟨span_ret HP.out (by unfold spanP; rw [HS.out]; rw [if_pos (by unfold hourB; rw [bs_len, decide_eq_false (by omega), Bool.and_false])]), rfl⟩
end Go.Proofs.YtlbglinpgjlbkaaGreatDoor
namespace Go.Proofs.YtlbglinpgjlbkaaGreatDoor
open Go.RowKit Wk

theorem six_bd {a b : UInt8} (h : sixB a b = true) : sixV a b ≤ 59 := by
 unfold sixB at h
 simp only [Bool.and_eq_true, decide_eq_true_eq] at h
 have := dig_of h.1.1
 have := dig_of h.1.2
 unfold sixV
 omega
theorem span_bd {s : Bs} {n : Nat} (h : spanM s = some n) : n ≤ 400000 := by
 rw [span_tl] at h
 by_cases hh : hourB (s.takeWhile (· != 58)) = false
 ·rw [if_pos hh] at h
  exact absurd h (by simp)
 ·rw [if_neg hh] at h
  have hh : hourB (s.takeWhile (· != 58)) = true := by simpa using hh
  unfold hourB at hh
  rw [Bool.and_eq_true, decide_eq_true_eq] at hh
  have hv := (decV_dig _ hh.2 (whole_iff.1 hh.1).2.1).1
  generalize decV (s.takeWhile (· != 58)) = v at *
  unfold spanTl at h
  split at h
  ·injection h with h
   omega
  ·split at h
   ·rename_i hs
    injection h with h
    have := six_bd hs
    omega
   ·exact absurd h (by simp)
  ·split at h
   ·rename_i hs
    injection h with h
    rw [Bool.and_eq_true, Bool.and_eq_true] at hs
    have := six_bd hs.1.1
    have := six_bd hs.2
    omega
   ·exact absurd h (by simp)
  ·exact absurd h (by simp)
theorem off_ret {s : ByteArray} {n : Int × Int} {a b : Int} (h : offsetM (bsO s) = n) (h2 : offsetM (bsO s) = (a, b)) : Ending.returned (.tuple #[.int .i64 a, .int .i64 b]) = .returned (.tuple #[.int .i64 n.1, .int .i64 n.2]) := by
 rw [← h, h2]
theorem neg_at (s : ByteArray) : negB (bsO s) = true ↔ ∃ h : 0 < s.size, (s[0].toNat : Int) = 45 := by
 unfold negB
 rw [List.head?_eq_getElem?]
 by_cases h : 0 < s.size
 ·rw [List.getElem?_eq_getElem (by rw [bs_len]; exact h), bs_at s 0 h]
  have := toNat_ne (x := s[0]) (n := 45) (by omega)
  constructor
  ·intro q
   exact ⟨h, this.2 (by simpa using q)⟩
  ·rintro ⟨_, q⟩
   have q := this.1 q
   rw [q]
   rfl
 ·rw [List.getElem?_eq_none (by rw [bs_len]; omega)]
  constructor
  ·intro q; exact absurd q (by decide)
  ·rintro ⟨q, _⟩; exact absurd q h
set_option maxHeartbeats 2000000 in
theorem offset18_any (s : ByteArray) (hs : s.size < 4294967281) (w : World) :
  Calls Tryz.prog 190 #[.string s] w fun e w' => e = .returned (.tuple #[.int .i64 (offsetM (bsO s)).1, .int .i64 (offsetM (bsO s)).2]) ∧ w' = w := by
 obtain ⟨n, hn⟩ : ∃ n, offsetM (bsO s) = n := ⟨_, rfl⟩
 rw [hn]
 have HN := Lib.hid hn
 clear hn
 obtain ⟨T, hT⟩ : ∃ T : ByteArray, ⟨(absB (bsO s)).toArray⟩ = T := ⟨_, rfl⟩
 have HT : Hid (bsO T = absB (bsO s)) := Lib.hid (by rw [← hT])
 have hts : T.size < 4294967281 := by
  have h1 := congrArg List.length HT.out
  rw [bs_len] at h1
  have h2 : (absB (bsO s)).length ≤ (bsO s).length := by
   unfold absB
   split
   ·simp
   ·exact Nat.le_refl _
  rw [bs_len] at h2
  omega
 have hoff : offsetM (bsO s) = match spanM (bsO T) with
   | none => (0, 3)
   | some n => if (negB (bsO s) && n == 0) = true then (0, 3) else if 93600 < n then (0, 2) else ((if negB (bsO s) = true then -(n : Int) else n), 0) := by
  rw [HT.out]
  rfl
 have hsp := span18_any T hts
 go_enter Tryz.func190, Tryz.ntmps190
 by_cases hg : ∃ h : 0 < s.size, (s[0].toNat : Int) = 45
 ·have hng : negB (bsO s) = true := (neg_at s).2 hg
  obtain ⟨h0, h45⟩ := hg
  have g1 : ((s[0].toNat : Int) == 45) = true := by simpa using h45
  have hTe : s.extract 1 s.size = T := by
   apply bs_inj
   rw [bs_ext, HT.out]
   unfold absB
   rw [if_pos hng, List.take_of_length_le (by rw [bs_len]; exact Nat.le_refl _)]
   cases bsO s <;> rfl
  have h1 : (1 : Int) ≤ s.size := by omega
  clear h45 hT
  cases hm : spanM (bsO T) with
  | none =>
   have hp : spanP (bsO T) = (0, false) := by unfold spanP; rw [hm]
   rw [hp] at hsp
   rw [hm] at hoff
   have HS := Lib.hid hsp
   clear hsp hm hp
   have HO : Hid (offsetM (bsO s) = (0, 3)) := Lib.hid (by rw [hoff])
   clear hoff
   go_wp2_with (first | (go_at_call 220; refine (HS.out _).mono ?_; rintro e w' ⟨rfl, rfl⟩) | (fail))
   go_ret2
   exact ⟨off_ret HN.out HO.out, rfl⟩
  | some m =>
   have hp : spanP (bsO T) = ((m : Int), true) := by unfold spanP; rw [hm]
   have hmb := span_bd hm
   have hmi : (m : Int) ≤ 400000 := by omega
   rw [hp] at hsp
   rw [hm] at hoff
   simp only at hoff
   have HS := Lib.hid hsp
   clear hsp hm hp
   rw [hng] at hoff
   by_cases hz : m = 0
   ·subst hz
    have HO : Hid (offsetM (bsO s) = (0, 3)) := Lib.hid (by rw [hoff]; rfl)
    clear hoff
    go_wp2_with (first | (go_at_call 220; refine (HS.out _).mono ?_; rintro e w' ⟨rfl, rfl⟩) | (fail))
    go_ret2
    exact ⟨off_ret HN.out HO.out, rfl⟩
   ·have gz : ((m : Int) == 0) = false := by simp; omega
    have gz2 : (m == 0) = false := by simpa using hz
    rw [gz2] at hoff
    by_cases hb : 93600 < m
    ·have gb : (93600 : Int) < m := by omega
     have HO : Hid (offsetM (bsO s) = (0, 2)) := Lib.hid (by rw [hoff]; rw [if_neg (by simp), if_pos hb])
     clear hoff
     go_wp2_with (first | (go_at_call 220; refine (HS.out _).mono ?_; rintro e w' ⟨rfl, rfl⟩) | (fail))
     go_ret2
     exact ⟨off_ret HN.out HO.out, rfl⟩
    ·have gb : ¬(93600 : Int) < m := by omega
     have HO : Hid (offsetM (bsO s) = (-(m : Int), 0)) := Lib.hid (by rw [hoff]; rw [if_neg (by simp), if_neg hb]; rfl)
     clear hoff
     go_wp2_with (first | (go_at_call 220; refine (HS.out _).mono ?_; rintro e w' ⟨rfl, rfl⟩) | (fail))
     go_ret2
     exact ⟨off_ret HN.out HO.out, rfl⟩
 ·have hng : negB (bsO s) = false := by
   rw [← Bool.not_eq_true]
   exact fun q => hg ((neg_at s).1 q)
  have hTs : T = s := by
   apply bs_inj
   rw [HT.out]
   unfold absB
   rw [hng]
   rfl
  clear hT
  subst hTs
  by_cases h0 : 0 < T.size
  ·have g1 : ((T[0].toNat : Int) == 45) = false := by
    have : ¬(T[0].toNat : Int) = 45 := fun q => hg ⟨h0, q⟩
    simpa using this
   clear hg
   cases hm : spanM (bsO T) with
   | none =>
    have hp : spanP (bsO T) = (0, false) := by unfold spanP; rw [hm]
    rw [hp] at hsp
    rw [hm] at hoff
    have HS := Lib.hid hsp
    clear hsp hm hp
    have HO : Hid (offsetM (bsO T) = (0, 3)) := Lib.hid (by rw [hoff])
    clear hoff
    go_wp2_with (first | (go_at_call 220; refine (HS.out _).mono ?_; rintro e w' ⟨rfl, rfl⟩) | (fail))
    go_ret2
    exact ⟨off_ret HN.out HO.out, rfl⟩
   | some m =>
    have hp : spanP (bsO T) = ((m : Int), true) := by unfold spanP; rw [hm]
    have hmb := span_bd hm
    have hmi : (m : Int) ≤ 400000 := by omega
    rw [hp] at hsp
    rw [hm] at hoff
    simp only at hoff
    have HS := Lib.hid hsp
    clear hsp hm hp
    rw [hng] at hoff
    by_cases hb : 93600 < m
    ·have gb : (93600 : Int) < m := by omega
     have HO : Hid (offsetM (bsO T) = (0, 2)) := Lib.hid (by rw [hoff]; rw [if_neg (by simp), if_pos hb])
     clear hoff
     go_wp2_with (first | (go_at_call 220; refine (HS.out _).mono ?_; rintro e w' ⟨rfl, rfl⟩) | (fail))
     go_ret2
     exact ⟨off_ret HN.out HO.out, rfl⟩
    ·have gb : ¬(93600 : Int) < m := by omega
     have HO : Hid (offsetM (bsO T) = ((m : Int), 0)) := Lib.hid (by rw [hoff]; rw [if_neg (by simp), if_neg hb]; rfl)
     clear hoff
     go_wp2_with (first | (go_at_call 220; refine (HS.out _).mono ?_; rintro e w' ⟨rfl, rfl⟩) | (fail))
     go_ret2
     exact ⟨off_ret HN.out HO.out, rfl⟩
  ·have h1 : ¬(0 : Int) < T.size := by omega
   clear hg
   cases hm : spanM (bsO T) with
   | none =>
    have hp : spanP (bsO T) = (0, false) := by unfold spanP; rw [hm]
    rw [hp] at hsp
    rw [hm] at hoff
    have HS := Lib.hid hsp
    clear hsp hm hp
    have HO : Hid (offsetM (bsO T) = (0, 3)) := Lib.hid (by rw [hoff])
    clear hoff
    go_wp2_with (first | (go_at_call 220; refine (HS.out _).mono ?_; rintro e w' ⟨rfl, rfl⟩) | (fail))
    go_ret2
    exact ⟨off_ret HN.out HO.out, rfl⟩
   | some m =>
    have hp : spanP (bsO T) = ((m : Int), true) := by unfold spanP; rw [hm]
    have hmb := span_bd hm
    have hmi : (m : Int) ≤ 400000 := by omega
    rw [hp] at hsp
    rw [hm] at hoff
    simp only at hoff
    have HS := Lib.hid hsp
    clear hsp hm hp
    rw [hng] at hoff
    by_cases hb : 93600 < m
    ·have gb : (93600 : Int) < m := by omega
     have HO : Hid (offsetM (bsO T) = (0, 2)) := Lib.hid (by rw [hoff]; rw [if_neg (by simp), if_pos hb])
     clear hoff
     go_wp2_with (first | (go_at_call 220; refine (HS.out _).mono ?_; rintro e w' ⟨rfl, rfl⟩) | (fail))
     go_ret2
     exact ⟨off_ret HN.out HO.out, rfl⟩
    ·have gb : ¬(93600 : Int) < m := by omega
     have HO : Hid (offsetM (bsO T) = ((m : Int), 0)) := Lib.hid (by rw [hoff]; rw [if_neg (by simp), if_neg hb]; rfl)
     clear hoff
     go_wp2_with (first | (go_at_call 220; refine (HS.out _).mono ?_; rintro e w' ⟨rfl, rfl⟩) | (fail))
     go_ret2
     exact ⟨off_ret HN.out HO.out, rfl⟩
end Go.Proofs.YtlbglinpgjlbkaaGreatDoor
namespace Go.Proofs.YtlbglinpgjlbkaaGreatDoor
open Go.RowKit Wk

theorem clk_ret {s : ByteArray} {n : Int × Int × Int} {a b c : Int} (h : clockM (bsO s) = n) (h2 : clockM (bsO s) = (a, b, c)) : Ending.returned (.tuple #[.int .i64 a, .int .i64 b, .int .i64 c]) = .returned (.tuple #[.int .i64 n.1, .int .i64 n.2.1, .int .i64 n.2.2]) := by
 rw [← h, h2]
theorem last_at (s : ByteArray) (h : 0 < s.size) : (bsO s).getLast? = some (s[s.size - 1]'(by omega)) := by
 rw [List.getLast?_eq_getElem?, bs_len, List.getElem?_eq_getElem (by rw [bs_len]; omega), bs_at s (s.size - 1) (by omega)]
theorem clk_of {s T : Bs} {c : Int} (h1 : clkCut s = T) (h2 : clkOf s = c) {r : Int × Int × Int} (h : ((spanP T).2 = false ∧ r = (0, 0, 3)) ∨ ((spanP T).2 = true ∧ 93600 < (spanP T).1 ∧ r = (0, 0, 2)) ∨ ((spanP T).2 = true ∧ ¬93600 < (spanP T).1 ∧ r = ((spanP T).1, c, 0))) : clockM s = r := by
 unfold clockM
 unfold spanP at h
 rw [h1, h2]
 cases hm : spanM T with
 | none =>
  simp only [hm] at h
  rcases h with h | h | h
  ·exact h.2.symm
  ·exact absurd h.1 (by simp)
  ·exact absurd h.1 (by simp)
 | some n =>
  simp only [hm] at h
  rcases h with h | h | h
  ·exact absurd h.1 (by simp)
  ·rw [h.2.2]
   have : 93600 < n := by have := h.2.1; omega
   simp only [this, if_true]
  ·rw [h.2.2]
   have : ¬93600 < n := by have := h.2.1; omega
   simp only [this, if_false]
set_option maxRecDepth 100000 in
set_option maxHeartbeats 2000000 in
theorem clock18_any (s : ByteArray) (hs : s.size < 4294967281) (w : World) :
  Calls Tryz.prog 189 #[.string s] w fun e w' => e = .returned (.tuple #[.int .i64 (clockM (bsO s)).1, .int .i64 (clockM (bsO s)).2.1, .int .i64 (clockM (bsO s)).2.2]) ∧ w' = w := by
 obtain ⟨n, hn⟩ : ∃ n, clockM (bsO s) = n := ⟨_, rfl⟩
 rw [hn]
 have HN := Lib.hid hn
 clear hn
 have HS2 := Lib.hid (span18_any s hs)
 go_enter Tryz.func189, Tryz.ntmps189
 by_cases h0 : 0 < s.size
 ·have hsi : (s.size : Int) ≤ 4294967280 := by omega
  have h1 : (1 : Int) ≤ s.size := by omega
  have hl := last_at s h0
  obtain ⟨x, hx⟩ : ∃ x, s[s.size - 1]'(by omega) = x := ⟨_, rfl⟩
  rw [hx] at hl
  obtain ⟨T, hT⟩ : ∃ T, s.extract 0 (s.size - 1) = T := ⟨_, rfl⟩
  have hTb : (bsO s).dropLast = bsO T := by
   rw [← hT, bs_ext, List.drop_zero, List.dropLast_eq_take, bs_len]
  have hts : T.size < 4294967281 := by
   have h := congrArg List.length (bs_ext s 0 (s.size - 1))
   rw [hT, bs_len, List.drop_zero, List.length_take, bs_len] at h
   omega
  have HS := Lib.hid (span18_any T hts)
  by_cases h119 : (x.toNat : Int) = 119
  ·have hx2 : x = 119 := (toNat_ne (n := 119) (by omega)).1 h119
   have HK : Hid (clkCut (bsO s) = bsO T ∧ clkOf (bsO s) = 1) := by
    refine Lib.hid ?_
    unfold clkCut clkOf
    rw [hl, hx2]
    exact ⟨hTb, rfl⟩
   clear hl hx2 hTb
   go_wp2_with (first | (go_at_call 220; (first | (with_reducible refine (HS.out _).mono ?_) | (with_reducible refine (HS2.out _).mono ?_)); rintro e w' ⟨rfl, rfl⟩) | (fail))
   all_goals go_ret3
   all_goals refine ⟨clk_ret HN.out (clk_of HK.out.1 HK.out.2 ?_), rfl⟩
   ·exact .inl ⟨by simpa using (by assumption : (!(spanP (bsO T)).2) = true), rfl⟩
   ·exact .inr (.inl ⟨by simpa using (by assumption : (!(spanP (bsO T)).2) = false), by assumption, rfl⟩)
   ·exact .inr (.inr ⟨by simpa using (by assumption : (!(spanP (bsO T)).2) = false), by omega, rfl⟩)
  ·by_cases h115 : (x.toNat : Int) = 115
   ·have hx2 : x = 115 := (toNat_ne (n := 115) (by omega)).1 h115
    have HK : Hid (clkCut (bsO s) = bsO T ∧ clkOf (bsO s) = 2) := by
     refine Lib.hid ?_
     unfold clkCut clkOf
     rw [hl, hx2]
     exact ⟨hTb, rfl⟩
    clear hl hx2 hTb
    go_wp2_with (first | (go_at_call 220; (first | (with_reducible refine (HS.out _).mono ?_) | (with_reducible refine (HS2.out _).mono ?_)); rintro e w' ⟨rfl, rfl⟩) | (fail))
    all_goals go_ret3
    all_goals refine ⟨clk_ret HN.out (clk_of HK.out.1 HK.out.2 ?_), rfl⟩
    ·exact .inl ⟨by simpa using (by assumption : (!(spanP (bsO T)).2) = true), rfl⟩
    ·exact .inr (.inl ⟨by simpa using (by assumption : (!(spanP (bsO T)).2) = false), by assumption, rfl⟩)
    ·exact .inr (.inr ⟨by simpa using (by assumption : (!(spanP (bsO T)).2) = false), by omega, rfl⟩)
   ·by_cases h117 : (x.toNat : Int) = 117
    ·have hx2 : x = 117 := (toNat_ne (n := 117) (by omega)).1 h117
     have HK : Hid (clkCut (bsO s) = bsO T ∧ clkOf (bsO s) = 3) := by
      refine Lib.hid ?_
      unfold clkCut clkOf
      rw [hl, hx2]
      exact ⟨hTb, rfl⟩
     clear hl hx2 hTb
     go_wp2_with (first | (go_at_call 220; (first | (with_reducible refine (HS.out _).mono ?_) | (with_reducible refine (HS2.out _).mono ?_)); rintro e w' ⟨rfl, rfl⟩) | (fail))
     all_goals go_ret3
     all_goals refine ⟨clk_ret HN.out (clk_of HK.out.1 HK.out.2 ?_), rfl⟩
     ·exact .inl ⟨by simpa using (by assumption : (!(spanP (bsO T)).2) = true), rfl⟩
     ·exact .inr (.inl ⟨by simpa using (by assumption : (!(spanP (bsO T)).2) = false), by assumption, rfl⟩)
     ·exact .inr (.inr ⟨by simpa using (by assumption : (!(spanP (bsO T)).2) = false), by omega, rfl⟩)
    ·have HK : Hid (clkCut (bsO s) = bsO s ∧ clkOf (bsO s) = 1) := by
      refine Lib.hid ?_
      have e1 : x ≠ 119 := fun q => h119 (by rw [q]; rfl)
      have e2 : x ≠ 115 := fun q => h115 (by rw [q]; rfl)
      have e3 : x ≠ 117 := fun q => h117 (by rw [q]; rfl)
      unfold clkCut clkOf
      rw [hl]
      constructor
      ·split
       ·rename_i q; injection q with q; exact absurd q e1
       ·rename_i q; injection q with q; exact absurd q e2
       ·rename_i q; injection q with q; exact absurd q e3
       ·rfl
      ·split
       ·rename_i q; injection q with q; exact absurd q e2
       ·rename_i q; injection q with q; exact absurd q e3
       ·rfl
     have g119 : ((x.toNat : Int) == 119) = false := by simpa using h119
     have g115 : ((x.toNat : Int) == 115) = false := by simpa using h115
     have g117 : ((x.toNat : Int) == 117) = false := by simpa using h117
     clear hl hTb h119 h115 h117
     go_wp2_with (first | (go_at_call 220; (first | (with_reducible refine (HS.out _).mono ?_) | (with_reducible refine (HS2.out _).mono ?_)); rintro e w' ⟨rfl, rfl⟩) | (fail))
     all_goals go_ret3
     all_goals refine ⟨clk_ret HN.out (clk_of HK.out.1 HK.out.2 ?_), rfl⟩
     ·exact .inl ⟨by simpa using (by assumption : (!(spanP (bsO s)).2) = true), rfl⟩
     ·exact .inr (.inl ⟨by simpa using (by assumption : (!(spanP (bsO s)).2) = false), by assumption, rfl⟩)
     ·exact .inr (.inr ⟨by simpa using (by assumption : (!(spanP (bsO s)).2) = false), by omega, rfl⟩)
 ·have HK : Hid (clkCut (bsO s) = bsO s ∧ clkOf (bsO s) = 1) := by
   refine Lib.hid ?_
   have e : bsO s = [] := List.eq_nil_of_length_eq_zero (by rw [bs_len]; omega)
   rw [e]
   exact ⟨rfl, rfl⟩
  have HS := HS2
  have h1 : ¬(0 : Int) < s.size := by omega
  go_wp2_with (first | (go_at_call 220; (first | (with_reducible refine (HS.out _).mono ?_) | (with_reducible refine (HS2.out _).mono ?_)); rintro e w' ⟨rfl, rfl⟩) | (fail))
  all_goals go_ret3
  all_goals refine ⟨clk_ret HN.out (clk_of HK.out.1 HK.out.2 ?_), rfl⟩
  ·exact .inl ⟨by simpa using (by assumption : (!(spanP (bsO s)).2) = true), rfl⟩
  ·exact .inr (.inl ⟨by simpa using (by assumption : (!(spanP (bsO s)).2) = false), by assumption, rfl⟩)
  ·exact .inr (.inr ⟨by simpa using (by assumption : (!(spanP (bsO s)).2) = false), by omega, rfl⟩)
end Go.Proofs.YtlbglinpgjlbkaaGreatDoor
namespace Go.Proofs.YtlbglinpgjlbkaaGreatDoor
open Go.RowKit Wk

def nv (n : Nat) : Int := -(n : Int)
def pv (n : Nat) : Int := n
theorem negR_at (s : ByteArray) : negR (bsO s) = true ↔ ∃ h : 1 < s.size, (s[0].toNat : Int) = 45 ∧ (s[1].toNat : Int) ≠ 48 := by
 unfold negR
 rw [bs_len, List.head?_eq_getElem?, List.head?_eq_getElem?, List.getElem?_tail]
 by_cases h : 1 < s.size
 ·rw [List.getElem?_eq_getElem (by rw [bs_len]; omega), List.getElem?_eq_getElem (by rw [bs_len]; omega), bs_at s 0 (by omega), bs_at s 1 h, decide_eq_true h]
  have h1 := toNat_ne (x := s[0]) (n := 45) (by omega)
  have h2 := toNat_ne (x := s[1]) (n := 48) (by omega)
  simp only [Bool.true_and, Bool.and_eq_true, beq_iff_eq, Bool.not_eq_true', beq_eq_false_iff_ne, Option.some.injEq, ne_eq]
  constructor
  ·rintro ⟨a, b⟩
   exact ⟨h, h1.2 a, fun q => b (h2.1 q)⟩
  ·rintro ⟨_, a, b⟩
   exact ⟨h1.1 a, fun q => b (h2.2 q)⟩
 ·rw [decide_eq_false h, Bool.false_and, Bool.false_and]
  constructor
  ·intro q; exact absurd q (by simp)
  ·rintro ⟨q, _⟩; exact absurd q h
set_option maxHeartbeats 8000000 in
theorem number18_any (s : ByteArray) (hs : s.size < 4294967281) (lo hi : Int) (hlo : -9223372036854775808 ≤ lo) (hhi : hi ≤ 9223372036854775807) (w' : World) :
  Calls Tryz.prog 132 #[.string s, .int .i64 lo, .int .i64 hi] w' fun e w'' => e = .returned (.tuple #[.int .i64 (numM (bsO s) lo hi).1, .int .i64 (numM (bsO s) lo hi).2]) ∧ w'' = w' := by
 obtain ⟨n, hn⟩ : ∃ n, numM (bsO s) lo hi = n := ⟨_, rfl⟩
 rw [hn]
 have HN : Hid (numM (bsO s) lo hi = n) := Lib.hid hn
 clear hn
 go_enter Tryz.func132, Tryz.ntmps132
 by_cases hr : negR (bsO s) = true
 ·obtain ⟨h1, h45, h48⟩ := (negR_at s).1 hr
  have HNR := Lib.hid hr
  obtain ⟨t, ht⟩ : ∃ t, s.extract 1 s.size = t := ⟨_, rfl⟩
  have HT : Hid ((if negR (bsO s) = true then (bsO s).tail else bsO s) = bsO t) := by
   refine Lib.hid ?_
   rw [if_pos hr, ← ht, bs_ext, List.take_of_length_le (by rw [bs_len]; exact Nat.le_refl _)]
   cases bsO s <;> rfl
  have hts : t.size < 4294967281 := by
   have h := congrArg List.length HT.out
   rw [if_pos hr, List.length_tail, bs_len, bs_len] at h
   omega
  have g1 : (1 : Int) < s.size := by omega
  have g1' : (1 : Int) ≤ s.size := by omega
  have h0 : 0 < s.size := by omega
  have g2 : ((s[0].toNat : Int) == 45) = true := by simpa using h45
  have g3 : ((s[1].toNat : Int) != 48) = true := by simpa using h48
  clear hr h45 h48
  have HW := Lib.hid (whole18_any t hts)
  cases hwt : wholeB (bsO t) with
  | false =>
   have HB : Hid (numM (bsO s) lo hi = (0, 3)) := Lib.hid (num_bad (by rw [← (ref_form (bsO s)).1, HT.out, hwt]))
   rw [hwt] at HW
   go_wp2_with (first | (go_at_call 188; refine (HW.out _).mono ?_; rintro e w' ⟨rfl, rfl⟩) | (fail))
   go_ret2
   exact ⟨num_ret HN.out HB.out, rfl⟩
  | true =>
   have hform : formN (bsO s) = true := by rw [← (ref_form (bsO s)).1, HT.out, hwt]
   have hneg : negB (bsO s) = true := by rw [← (ref_form (bsO s)).2 hform]; exact HNR.out
   have habs : absB (bsO s) = bsO t := by
    have h := HT.out
    rw [(ref_form (bsO s)).2 hform] at h
    exact h
   have HF : Hid (numM (bsO s) lo hi = if 9223372036854775808 < decV (bsO t) ∨ (true = false ∧ decV (bsO t) = 9223372036854775808) then (0, 2) else if nv (decV (bsO t)) < lo ∨ hi < nv (decV (bsO t)) then (0, 2) else (nv (decV (bsO t)), 0)) := by
    refine Lib.hid ?_
    have h := num_fin (s := bsO s) (lo := lo) (hi := hi) hform hlo hhi
    have hv : numV (bsO s) = nv (decV (bsO t)) := by
     unfold numV
     rw [hneg, habs]
     rfl
    rw [hneg, habs, hv] at h
    exact h
   have HD : Hid ((bsO t).all digC = true) := Lib.hid (whole_iff.1 hwt).2.1
   rw [hwt] at HW
   clear hform hneg habs
   go_wp2_with (first | (go_at_call 188; refine (HW.out _).mono ?_; rintro e w' ⟨rfl, rfl⟩) | (fail))
   go_loopw [10, 11, 12] (fun vn vk _ wr => ∃ (k : Nat) (m : Int), vk = .int .i64 k ∧ vn = .int .i64 m ∧ k ≤ t.size ∧ NumI t k m false ∧ wr = w') (fun _ u _ _ => t.size - (intOf u).toNat)
   case atStart => exact ⟨0, 0, rfl, rfl, Nat.zero_le _, NumI.start t, rfl⟩
   case round =>
    obtain ⟨k, m, rfl, rfl, hk, HI, hw⟩ := hrel
    rw [hw]
    clear hw
    have hkb : (k : Int) ≤ 4294967280 := by omega
    have m1 := HI.lo
    have m2 := HI.hi
    by_cases hlt : k < t.size
    ·have hd := dig_at HD.out hlt
     have hd1 : 48 ≤ (t[k].toNat : Int) := by have := dig_of hd; omega
     have hd2 : (t[k].toNat : Int) ≤ 57 := by have := dig_of hd; omega
     by_cases hq : m < (-9223372036854775808 + ((t[k].toNat : Int) - 48)).tdiv 10
     ·have HB := HI.next_big hd hq
      have HX : Hid (9223372036854775808 < decV (bsO t)) := by
       refine Lib.hid ?_
       have h1 := HB.big.out
       have h1 : 9223372036854775808 < decV ((bsO t).take (k + 1)) := by simpa using h1.symm
       have := decV_take (bsO t) (k + 1)
       omega
      clear HB hd
      go_wp2_with fail
      go_ret2
      refine ⟨num_ret HN.out ?_, rfl⟩
      rw [HF.out, if_pos (.inl HX.out)]
     ·have HS := HI.next_small hd hq
      have q1 : -9223372036854775808 ≤ 10 * m := by have := HS.lo; omega
      have q2 : 10 * m ≤ 0 := by omega
      have q3 := HS.lo
      clear hd
      go_wp2_with fail
      go_roundw
      case rel => exact ⟨k + 1, _, by go_num, rfl, by omega, HS, by first | trivial | rfl⟩
      case measure => simp [intOf]; omega
    ·obtain rfl : k = t.size := by omega
     obtain ⟨-, e2, e3⟩ := HI.all
     have e4 : ¬9223372036854775808 < decV (bsO t) := by
      intro q
      rw [decide_eq_true q] at e2
      cases e2
     have e5 := e3 rfl
     have HW2 : Hid (numM (bsO s) lo hi = if m < lo ∨ hi < m then (0, 2) else (m, 0)) := by
      refine Lib.hid ?_
      rw [HF.out, if_neg]
      ·rw [show nv (decV (bsO t)) = m by show -(decV (bsO t) : Int) = m; omega]
      ·rintro (q | q)
       ·exact e4 q
       ·exact absurd q.1 (by simp)
     clear e2 e3 e4 e5
     go_wp2_with fail
     all_goals go_ret2
     all_goals exact ⟨num_ret HN.out (by rw [HW2.out]; first | exact if_pos (by omega) | exact if_neg (by omega)), rfl⟩
 ·have HNR : Hid (negR (bsO s) = false) := Lib.hid (by simpa using hr)
  have HT : Hid ((if negR (bsO s) = true then (bsO s).tail else bsO s) = bsO s) := Lib.hid (if_neg hr)
  obtain ⟨t, hst⟩ : ∃ t, s = t := ⟨_, rfl⟩
  have hts := hs
  have hr2 := fun q => hr ((negR_at s).2 q)
  clear hr
  by_cases h1 : 1 < s.size
  ·have g1 : (1 : Int) < s.size := by omega
   have h0 : 0 < s.size := by omega
   by_cases h45 : (s[0].toNat : Int) = 45
   ·have g2 : ((s[0].toNat : Int) == 45) = true := by simpa using h45
    have g3 : ((s[1].toNat : Int) != 48) = false := by
     have : (s[1].toNat : Int) = 48 := Decidable.byContradiction fun q => hr2 ⟨h1, h45, q⟩
     simpa using this
    clear hr2 h45 hst t
    have HW := Lib.hid (whole18_any s hts)
    cases hwt : wholeB (bsO s) with
    | false =>
     have HB : Hid (numM (bsO s) lo hi = (0, 3)) := Lib.hid (num_bad (by rw [← (ref_form (bsO s)).1, HT.out, hwt]))
     rw [hwt] at HW
     go_wp2_with (first | (go_at_call 188; refine (HW.out _).mono ?_; rintro e w' ⟨rfl, rfl⟩) | (fail))
     go_ret2
     exact ⟨num_ret HN.out HB.out, rfl⟩
    | true =>
     have hform : formN (bsO s) = true := by rw [← (ref_form (bsO s)).1, HT.out, hwt]
     have hneg : negB (bsO s) = false := by rw [← (ref_form (bsO s)).2 hform]; exact HNR.out
     have habs : absB (bsO s) = bsO s := by
      have h := HT.out
      rw [(ref_form (bsO s)).2 hform] at h
      exact h
     have HF : Hid (numM (bsO s) lo hi = if 9223372036854775808 < decV (bsO s) ∨ (false = false ∧ decV (bsO s) = 9223372036854775808) then (0, 2) else if pv (decV (bsO s)) < lo ∨ hi < pv (decV (bsO s)) then (0, 2) else (pv (decV (bsO s)), 0)) := by
      refine Lib.hid ?_
      have h := num_fin (s := bsO s) (lo := lo) (hi := hi) hform hlo hhi
      have hv : numV (bsO s) = pv (decV (bsO s)) := by
       unfold numV
       rw [hneg, habs]
       rfl
      rw [hneg, habs, hv] at h
      exact h
     have HD : Hid ((bsO s).all digC = true) := Lib.hid (whole_iff.1 hwt).2.1
     rw [hwt] at HW
     clear hform hneg habs
     go_wp2_with (first | (go_at_call 188; refine (HW.out _).mono ?_; rintro e w' ⟨rfl, rfl⟩) | (fail))
     go_loopw [10, 11, 12] (fun vn vk _ wr => ∃ (k : Nat) (m : Int), vk = .int .i64 k ∧ vn = .int .i64 m ∧ k ≤ s.size ∧ NumI s k m false ∧ wr = w') (fun _ u _ _ => s.size - (intOf u).toNat)
     case atStart => exact ⟨0, 0, rfl, rfl, Nat.zero_le _, NumI.start s, rfl⟩
     case round =>
      obtain ⟨k, m, rfl, rfl, hk, HI, hw⟩ := hrel
      rw [hw]
      clear hw
      have hkb : (k : Int) ≤ 4294967280 := by omega
      have m1 := HI.lo
      have m2 := HI.hi
      by_cases hlt : k < s.size
      ·have hd := dig_at HD.out hlt
       have hd1 : 48 ≤ (s[k].toNat : Int) := by have := dig_of hd; omega
       have hd2 : (s[k].toNat : Int) ≤ 57 := by have := dig_of hd; omega
       by_cases hq : m < (-9223372036854775808 + ((s[k].toNat : Int) - 48)).tdiv 10
       ·have HB := HI.next_big hd hq
        have HX : Hid (9223372036854775808 < decV (bsO s)) := by
         refine Lib.hid ?_
         have h1 := HB.big.out
         have h1 : 9223372036854775808 < decV ((bsO s).take (k + 1)) := by simpa using h1.symm
         have := decV_take (bsO s) (k + 1)
         omega
        clear HB hd
        go_wp2_with fail
        go_ret2
        refine ⟨num_ret HN.out ?_, rfl⟩
        rw [HF.out, if_pos (.inl HX.out)]
       ·have HS := HI.next_small hd hq
        have q1 : -9223372036854775808 ≤ 10 * m := by have := HS.lo; omega
        have q2 : 10 * m ≤ 0 := by omega
        have q3 := HS.lo
        clear hd
        go_wp2_with fail
        go_roundw
        case rel => exact ⟨k + 1, _, by go_num, rfl, by omega, HS, by first | trivial | rfl⟩
        case measure => simp [intOf]; omega
      ·obtain rfl : k = s.size := by omega
       obtain ⟨-, e2, e3⟩ := HI.all
       have e4 : ¬9223372036854775808 < decV (bsO s) := by
        intro q
        rw [decide_eq_true q] at e2
        cases e2
       have e5 := e3 rfl
       by_cases hmin : m = -9223372036854775808
       ·have HW2 : Hid (numM (bsO s) lo hi = (0, 2)) := by
         refine Lib.hid ?_
         rw [HF.out, if_pos]
         exact .inr ⟨by first | trivial | rfl, by omega⟩
        have gm : (m == -9223372036854775808) = true := by simpa using hmin
        clear e2 e3 e4 e5 hmin
        go_wp2_with fail
        all_goals go_ret2
        all_goals exact ⟨num_ret HN.out HW2.out, rfl⟩
       ·have HW2 : Hid (numM (bsO s) lo hi = if -m < lo ∨ hi < -m then (0, 2) else (-m, 0)) := by
         refine Lib.hid ?_
         rw [HF.out, if_neg]
         ·rw [show pv (decV (bsO s)) = -m by show (decV (bsO s) : Int) = -m; omega]
         ·rintro (q | q)
          ·exact e4 q
          ·omega
        have gm : (m == -9223372036854775808) = false := by simpa using hmin
        have m3 : -9223372036854775807 ≤ m := by omega
        clear e2 e3 e4 e5 hmin
        go_wp2_with fail
        all_goals go_ret2
        all_goals exact ⟨num_ret HN.out (by rw [HW2.out]; first | exact if_pos (by omega) | exact if_neg (by omega)), rfl⟩
   ·have g2 : ((s[0].toNat : Int) == 45) = false := by simpa using h45
    clear hr2 h45 hst t
    have HW := Lib.hid (whole18_any s hts)
    cases hwt : wholeB (bsO s) with
    | false =>
     have HB : Hid (numM (bsO s) lo hi = (0, 3)) := Lib.hid (num_bad (by rw [← (ref_form (bsO s)).1, HT.out, hwt]))
     rw [hwt] at HW
     go_wp2_with (first | (go_at_call 188; refine (HW.out _).mono ?_; rintro e w' ⟨rfl, rfl⟩) | (fail))
     go_ret2
     exact ⟨num_ret HN.out HB.out, rfl⟩
    | true =>
     have hform : formN (bsO s) = true := by rw [← (ref_form (bsO s)).1, HT.out, hwt]
     have hneg : negB (bsO s) = false := by rw [← (ref_form (bsO s)).2 hform]; exact HNR.out
     have habs : absB (bsO s) = bsO s := by
      have h := HT.out
      rw [(ref_form (bsO s)).2 hform] at h
      exact h
     have HF : Hid (numM (bsO s) lo hi = if 9223372036854775808 < decV (bsO s) ∨ (false = false ∧ decV (bsO s) = 9223372036854775808) then (0, 2) else if pv (decV (bsO s)) < lo ∨ hi < pv (decV (bsO s)) then (0, 2) else (pv (decV (bsO s)), 0)) := by
      refine Lib.hid ?_
      have h := num_fin (s := bsO s) (lo := lo) (hi := hi) hform hlo hhi
      have hv : numV (bsO s) = pv (decV (bsO s)) := by
       unfold numV
       rw [hneg, habs]
       rfl
      rw [hneg, habs, hv] at h
      exact h
     have HD : Hid ((bsO s).all digC = true) := Lib.hid (whole_iff.1 hwt).2.1
     rw [hwt] at HW
     clear hform hneg habs
     go_wp2_with (first | (go_at_call 188; refine (HW.out _).mono ?_; rintro e w' ⟨rfl, rfl⟩) | (fail))
     go_loopw [10, 11, 12] (fun vn vk _ wr => ∃ (k : Nat) (m : Int), vk = .int .i64 k ∧ vn = .int .i64 m ∧ k ≤ s.size ∧ NumI s k m false ∧ wr = w') (fun _ u _ _ => s.size - (intOf u).toNat)
     case atStart => exact ⟨0, 0, rfl, rfl, Nat.zero_le _, NumI.start s, rfl⟩
     case round =>
      obtain ⟨k, m, rfl, rfl, hk, HI, hw⟩ := hrel
      rw [hw]
      clear hw
      have hkb : (k : Int) ≤ 4294967280 := by omega
      have m1 := HI.lo
      have m2 := HI.hi
      by_cases hlt : k < s.size
      ·have hd := dig_at HD.out hlt
       have hd1 : 48 ≤ (s[k].toNat : Int) := by have := dig_of hd; omega
       have hd2 : (s[k].toNat : Int) ≤ 57 := by have := dig_of hd; omega
       by_cases hq : m < (-9223372036854775808 + ((s[k].toNat : Int) - 48)).tdiv 10
       ·have HB := HI.next_big hd hq
        have HX : Hid (9223372036854775808 < decV (bsO s)) := by
         refine Lib.hid ?_
         have h1 := HB.big.out
         have h1 : 9223372036854775808 < decV ((bsO s).take (k + 1)) := by simpa using h1.symm
         have := decV_take (bsO s) (k + 1)
         omega
        clear HB hd
        go_wp2_with fail
        go_ret2
        refine ⟨num_ret HN.out ?_, rfl⟩
        rw [HF.out, if_pos (.inl HX.out)]
       ·have HS := HI.next_small hd hq
        have q1 : -9223372036854775808 ≤ 10 * m := by have := HS.lo; omega
        have q2 : 10 * m ≤ 0 := by omega
        have q3 := HS.lo
        clear hd
        go_wp2_with fail
        go_roundw
        case rel => exact ⟨k + 1, _, by go_num, rfl, by omega, HS, by first | trivial | rfl⟩
        case measure => simp [intOf]; omega
      ·obtain rfl : k = s.size := by omega
       obtain ⟨-, e2, e3⟩ := HI.all
       have e4 : ¬9223372036854775808 < decV (bsO s) := by
        intro q
        rw [decide_eq_true q] at e2
        cases e2
       have e5 := e3 rfl
       by_cases hmin : m = -9223372036854775808
       ·have HW2 : Hid (numM (bsO s) lo hi = (0, 2)) := by
         refine Lib.hid ?_
         rw [HF.out, if_pos]
         exact .inr ⟨by first | trivial | rfl, by omega⟩
        have gm : (m == -9223372036854775808) = true := by simpa using hmin
        clear e2 e3 e4 e5 hmin
        go_wp2_with fail
        all_goals go_ret2
        all_goals exact ⟨num_ret HN.out HW2.out, rfl⟩
       ·have HW2 : Hid (numM (bsO s) lo hi = if -m < lo ∨ hi < -m then (0, 2) else (-m, 0)) := by
         refine Lib.hid ?_
         rw [HF.out, if_neg]
         ·rw [show pv (decV (bsO s)) = -m by show (decV (bsO s) : Int) = -m; omega]
         ·rintro (q | q)
          ·exact e4 q
          ·omega
        have gm : (m == -9223372036854775808) = false := by simpa using hmin
        have m3 : -9223372036854775807 ≤ m := by omega
        clear e2 e3 e4 e5 hmin
        go_wp2_with fail
        all_goals go_ret2
        all_goals exact ⟨num_ret HN.out (by rw [HW2.out]; first | exact if_pos (by omega) | exact if_neg (by omega)), rfl⟩
  ·have g1 : ¬(1 : Int) < s.size := by omega
   clear hr2 hst t
   have HW := Lib.hid (whole18_any s hts)
   cases hwt : wholeB (bsO s) with
   | false =>
    have HB : Hid (numM (bsO s) lo hi = (0, 3)) := Lib.hid (num_bad (by rw [← (ref_form (bsO s)).1, HT.out, hwt]))
    rw [hwt] at HW
    go_wp2_with (first | (go_at_call 188; refine (HW.out _).mono ?_; rintro e w' ⟨rfl, rfl⟩) | (fail))
    go_ret2
    exact ⟨num_ret HN.out HB.out, rfl⟩
   | true =>
    have hform : formN (bsO s) = true := by rw [← (ref_form (bsO s)).1, HT.out, hwt]
    have hneg : negB (bsO s) = false := by rw [← (ref_form (bsO s)).2 hform]; exact HNR.out
    have habs : absB (bsO s) = bsO s := by
     have h := HT.out
     rw [(ref_form (bsO s)).2 hform] at h
     exact h
    have HF : Hid (numM (bsO s) lo hi = if 9223372036854775808 < decV (bsO s) ∨ (false = false ∧ decV (bsO s) = 9223372036854775808) then (0, 2) else if pv (decV (bsO s)) < lo ∨ hi < pv (decV (bsO s)) then (0, 2) else (pv (decV (bsO s)), 0)) := by
     refine Lib.hid ?_
     have h := num_fin (s := bsO s) (lo := lo) (hi := hi) hform hlo hhi
     have hv : numV (bsO s) = pv (decV (bsO s)) := by
      unfold numV
      rw [hneg, habs]
      rfl
     rw [hneg, habs, hv] at h
     exact h
    have HD : Hid ((bsO s).all digC = true) := Lib.hid (whole_iff.1 hwt).2.1
    rw [hwt] at HW
    clear hform hneg habs
    go_wp2_with (first | (go_at_call 188; refine (HW.out _).mono ?_; rintro e w' ⟨rfl, rfl⟩) | (fail))
    go_loopw [10, 11, 12] (fun vn vk _ wr => ∃ (k : Nat) (m : Int), vk = .int .i64 k ∧ vn = .int .i64 m ∧ k ≤ s.size ∧ NumI s k m false ∧ wr = w') (fun _ u _ _ => s.size - (intOf u).toNat)
    case atStart => exact ⟨0, 0, rfl, rfl, Nat.zero_le _, NumI.start s, rfl⟩
    case round =>
     obtain ⟨k, m, rfl, rfl, hk, HI, hw⟩ := hrel
     rw [hw]
     clear hw
     have hkb : (k : Int) ≤ 4294967280 := by omega
     have m1 := HI.lo
     have m2 := HI.hi
     by_cases hlt : k < s.size
     ·have hd := dig_at HD.out hlt
      have hd1 : 48 ≤ (s[k].toNat : Int) := by have := dig_of hd; omega
      have hd2 : (s[k].toNat : Int) ≤ 57 := by have := dig_of hd; omega
      by_cases hq : m < (-9223372036854775808 + ((s[k].toNat : Int) - 48)).tdiv 10
      ·have HB := HI.next_big hd hq
       have HX : Hid (9223372036854775808 < decV (bsO s)) := by
        refine Lib.hid ?_
        have h1 := HB.big.out
        have h1 : 9223372036854775808 < decV ((bsO s).take (k + 1)) := by simpa using h1.symm
        have := decV_take (bsO s) (k + 1)
        omega
       clear HB hd
       go_wp2_with fail
       go_ret2
       refine ⟨num_ret HN.out ?_, rfl⟩
       rw [HF.out, if_pos (.inl HX.out)]
      ·have HS := HI.next_small hd hq
       have q1 : -9223372036854775808 ≤ 10 * m := by have := HS.lo; omega
       have q2 : 10 * m ≤ 0 := by omega
       have q3 := HS.lo
       clear hd
       go_wp2_with fail
       go_roundw
       case rel => exact ⟨k + 1, _, by go_num, rfl, by omega, HS, by first | trivial | rfl⟩
       case measure => simp [intOf]; omega
     ·obtain rfl : k = s.size := by omega
      obtain ⟨-, e2, e3⟩ := HI.all
      have e4 : ¬9223372036854775808 < decV (bsO s) := by
       intro q
       rw [decide_eq_true q] at e2
       cases e2
      have e5 := e3 rfl
      by_cases hmin : m = -9223372036854775808
      ·have HW2 : Hid (numM (bsO s) lo hi = (0, 2)) := by
        refine Lib.hid ?_
        rw [HF.out, if_pos]
        exact .inr ⟨by first | trivial | rfl, by omega⟩
       have gm : (m == -9223372036854775808) = true := by simpa using hmin
       clear e2 e3 e4 e5 hmin
       go_wp2_with fail
       all_goals go_ret2
       all_goals exact ⟨num_ret HN.out HW2.out, rfl⟩
      ·have HW2 : Hid (numM (bsO s) lo hi = if -m < lo ∨ hi < -m then (0, 2) else (-m, 0)) := by
        refine Lib.hid ?_
        rw [HF.out, if_neg]
        ·rw [show pv (decV (bsO s)) = -m by show (decV (bsO s) : Int) = -m; omega]
        ·rintro (q | q)
         ·exact e4 q
         ·omega
       have gm : (m == -9223372036854775808) = false := by simpa using hmin
       have m3 : -9223372036854775807 ≤ m := by omega
       clear e2 e3 e4 e5 hmin
       go_wp2_with fail
       all_goals go_ret2
       all_goals exact ⟨num_ret HN.out (by rw [HW2.out]; first | exact if_pos (by omega) | exact if_neg (by omega)), rfl⟩
end Go.Proofs.YtlbglinpgjlbkaaGreatDoor
