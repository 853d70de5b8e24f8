import Derived.Test.YtlbglinpgjlbkaaGreatDoorWkQj
/- Zone texts: texts of letters and digits: the program's and the reference's. -/
namespace Go.Proofs.YtlbglinpgjlbkaaGreatDoor
open Go.RowKit Wk

def onC (o : Bs) (x : UInt8) : Bool := letC x || digC x || o.contains x
theorem onlyB_iff (s : ByteArray) (o : Bs) : onlyB (bsO s) o = true ↔ ∀ k (h : k < s.size), onC o s[k] = true := by
 unfold onlyB
 rw [List.all_eq_true]
 constructor
 ·intro h k hk
  rw [← bs_at s k hk]
  exact h _ (List.getElem_mem _)
 ·intro h x hx
  obtain ⟨k, hk, rfl⟩ := List.mem_iff_getElem.1 hx
  rw [bs_len] at hk
  rw [bs_at s k hk]
  exact h k hk
theorem only_false {s : ByteArray} {o : Bs} {r : Bool} (h : onlyB (bsO s) o = r) {k : Nat} {hk : k < s.size} (hn : onC o s[k] = false) : false = r := by
 rw [← h]
 cases hb : onlyB (bsO s) o with
 | false => rfl
 | true =>
  have := (onlyB_iff s o).1 hb k hk
  rw [hn] at this
  exact this
theorem on_next {s : ByteArray} {o : Bs} {k : Nat} (h : ∀ j (_ : j < s.size), j < k → onC o s[j] = true) {hk : k < s.size} (hn : onC o s[k] = true) : Hid (∀ j (_ : j < s.size), j < k + 1 → onC o s[j] = true) := Lib.hid fun j hj hlt => by
 rcases Nat.lt_or_ge j k with q | q
 ·exact h j hj q
 ·obtain rfl : j = k := by omega
  exact hn
theorem ld_iff (x : UInt8) : (letC x || digC x) = true ↔ (65 ≤ (x.toNat : Int) ∧ (x.toNat : Int) ≤ 90) ∨ (97 ≤ (x.toNat : Int) ∧ (x.toNat : Int) ≤ 122) ∨ (48 ≤ (x.toNat : Int) ∧ (x.toNat : Int) ≤ 57) := by
 unfold letC digC
 simp only [Bool.or_eq_true, Bool.and_eq_true, decide_eq_true_eq]
 omega
theorem on_ld {o : Bs} {x : UInt8} (h : (letC x || digC x) = true) : onC o x = true := by unfold onC; rw [h]; rfl
theorem on_con {o : Bs} {x : UInt8} (h : o.contains x = true) : onC o x = true := by unfold onC; rw [h, Bool.or_true]
theorem on_no {o : Bs} {x : UInt8} (h : (letC x || digC x) = false) (h2 : o.contains x = false) : onC o x = false := by unfold onC; rw [h, h2]; rfl
theorem con_one (o : ByteArray) (x : UInt8) (w : World) :
  Calls Tryz.prog 218 #[.string o, .string ⟨#[x]⟩] w fun e w' => e = .returned (.bool ((bsO o).contains x)) ∧ w' = w := by
 refine (Tryz.strings_Contains_one o x w).mono ?_
 rintro e w' ⟨rfl, rfl⟩
 exact ⟨ret_bool (Lib.contains_iff_indexByte _ _).symm, rfl⟩
theorem ext_one {s : ByteArray} {k : Nat} (hk : k < s.size) : s.extract k (k + 1) = ⟨#[s[k]]⟩ := by
 apply bs_inj
 rw [bs_ext, List.drop_take, show k + 1 - k = 1 by omega, List.drop_eq_getElem_cons (by rw [bs_len]; exact hk), bs_at s k hk]
 rfl
set_option maxRecDepth 100000 in
set_option maxHeartbeats 4000000 in
theorem only_any (s o : ByteArray) (hs : s.size < 4294967281) (w : World) :
  Calls Tryz.prog 184 #[.string s, .string o] w fun e w' => e = .returned (.bool (onlyB (bsO s) (bsO o))) ∧ w' = w := by
 obtain ⟨r, hr⟩ : ∃ r, onlyB (bsO s) (bsO o) = r := ⟨_, rfl⟩
 rw [hr]
 have HR := Lib.hid hr
 clear hr
 go_enter Tryz.func184, Tryz.ntmps184
 go_wp2_with fail
 go_loopw [5, 6, 9] (fun _ _ u wr => ∃ k : Nat, u = .int .i64 k ∧ k ≤ s.size ∧ Hid (∀ j (h : j < s.size), j < k → onC (bsO o) s[j] = true) ∧ wr = w) (fun _ _ u _ => s.size - (intOf u).toNat)
 case atStart => exact ⟨0, rfl, Nat.zero_le _, fun j _ h => absurd h (by omega), rfl⟩
 case round =>
  obtain ⟨k, rfl, hk, HZ, hw⟩ := hrel
  have hkb : (k : Int) ≤ 4294967280 := by omega
  rw [hw]
  clear hw
  by_cases hlt : k < s.size
  ·have HC : Hid (∀ w', Calls Tryz.prog 218 #[.string o, .string (s.extract k (k + 1))] w' fun e w'' => e = .returned (.bool ((bsO o).contains s[k])) ∧ w'' = w') := Lib.hid fun w' => by
    rw [ext_one hlt]
    exact con_one o s[k] w'
   have hsl1 : (k : Int) + 1 ≤ s.size := by omega
   cases hld : (letC s[k] || digC s[k]) with
   | true =>
    have hn := on_ld (o := bsO o) hld
    have hx := (ld_iff s[k]).1 hld
    have HN := Lib.hid hn
    clear hn hld
    rcases hx with hx | hx | hx
    ·have x1 := hx.1
     have x2 := hx.2
     clear hx
     go_wp2_with fail
     all_goals go_roundw
     all_goals first | (case rel => exact ⟨k + 1, by go_num, by omega, on_next HZ.out HN.out, by first | trivial | rfl⟩) | (case measure => simp [intOf]; omega)
    ·have x1 := hx.1
     have x2 := hx.2
     clear hx
     go_wp2_with fail
     all_goals go_roundw
     all_goals first | (case rel => exact ⟨k + 1, by go_num, by omega, on_next HZ.out HN.out, by first | trivial | rfl⟩) | (case measure => simp [intOf]; omega)
    ·have x1 := hx.1
     have x2 := hx.2
     clear hx
     go_wp2_with fail
     all_goals go_roundw
     all_goals first | (case rel => exact ⟨k + 1, by go_num, by omega, on_next HZ.out HN.out, by first | trivial | rfl⟩) | (case measure => simp [intOf]; omega)
   | false =>
    have HX := Lib.hid (mt (ld_iff s[k]).2 (by rw [hld]; simp))
    have HLD := Lib.hid hld
    clear hld
    cases hc : (bsO o).contains s[k] with
    | true =>
     rw [hc] at HC
     have HN := Lib.hid (on_con hc)
     clear hc
     go_wp2_with (first | (go_at_call 218; refine (HC.out _).mono ?_; rintro e w' ⟨rfl, rfl⟩) | fail)
     all_goals first
      | (exfalso; have := HX.out; omega)
      | go_roundw
     all_goals first | (case rel => exact ⟨k + 1, by go_num, by omega, on_next HZ.out HN.out, by first | trivial | rfl⟩) | (case measure => simp [intOf]; omega)
    | false =>
     rw [hc] at HC
     have HN := Lib.hid (on_no HLD.out hc)
     clear hc
     go_wp2_with (first | (go_at_call 218; refine (HC.out _).mono ?_; rintro e w' ⟨rfl, rfl⟩) | fail)
     all_goals first
      | (exfalso; have := HX.out; omega)
      | (go_ret; exact ⟨ret_bool (only_false HR.out HN.out), rfl⟩)
  ·obtain rfl : k = s.size := by omega
   go_wp2_with fail
   go_ret
   refine ⟨ret_bool ?_, rfl⟩
   rw [← HR.out]
   exact ((onlyB_iff s (bsO o)).2 fun j hj => HZ.out j hj hj).symm
set_option maxRecDepth 100000 in
theorem isLetter_any (s : ByteArray) (hs : s.size < 4294967281) (w : World) :
  Calls Tryz.prog 124 #[.string s] w fun e w' => e = .returned (.bool (letterB (bsO s))) ∧ w' = w := by
 obtain ⟨r, hr⟩ : ∃ r, letterB (bsO s) = r := ⟨_, rfl⟩
 rw [hr]
 unfold letterB at hr
 rw [bs_len] at hr
 have HO := Lib.hid (only_any s ⟨#[]⟩ hs w)
 obtain ⟨q, hq⟩ : ∃ q, onlyB (bsO s) (bsO ⟨#[]⟩) = q := ⟨_, rfl⟩
 rw [hq] at HO
 have hq : onlyB (bsO s) [] = q := hq
 rw [hq] at hr
 have HR := Lib.hid hr
 clear hr hq
 go_enter Tryz.func124, Tryz.ntmps124
 go_wp2_with (first | (go_at_call 184; refine HO.out.mono ?_; rintro e w' ⟨rfl, rfl⟩) | fail)
 all_goals go_ret
 all_goals refine ⟨ret_bool ?_, rfl⟩
 all_goals rw [← HR.out]
 all_goals clear HR
 all_goals cases q <;> simp <;> omega
set_option maxRecDepth 100000 in
theorem isPlain_any (s : ByteArray) (hs : s.size < 4294967281) (w : World) :
  Calls Tryz.prog 187 #[.string s] w fun e w' => e = .returned (.bool (plainB (bsO s))) ∧ w' = w := by
 obtain ⟨r, hr⟩ : ∃ r, plainB (bsO s) = r := ⟨_, rfl⟩
 rw [hr]
 unfold plainB at hr
 rw [bs_len] at hr
 have HO := Lib.hid (only_any s ⟨#[43, 45]⟩ hs w)
 obtain ⟨q, hq⟩ : ∃ q, onlyB (bsO s) (bsO ⟨#[43, 45]⟩) = q := ⟨_, rfl⟩
 rw [hq] at HO
 have hq : onlyB (bsO s) [43, 45] = q := hq
 rw [hq] at hr
 have HR := Lib.hid hr
 clear hr hq
 go_enter Tryz.func187, Tryz.ntmps187
 go_wp2_with (first | (go_at_call 184; refine HO.out.mono ?_; rintro e w' ⟨rfl, rfl⟩) | fail)
 all_goals go_ret
 all_goals refine ⟨ret_bool ?_, rfl⟩
 all_goals rw [← HR.out]
 all_goals clear HR
 all_goals cases q <;> simp <;> omega
set_option maxRecDepth 100000 in
set_option maxHeartbeats 4000000 in
theorem letters19_any (s o : ByteArray) (hs : s.size < 4294967281) (ho : o.size < 4294967281) (w : World) :
  Calls Tryz.prog 191 #[.string s, .string o] w fun e w' => e = .returned (.bool (onlyB (bsO s) (bsO o))) ∧ w' = w := by
 obtain ⟨r, hr⟩ : ∃ r, onlyB (bsO s) (bsO o) = r := ⟨_, rfl⟩
 rw [hr]
 have HR := Lib.hid hr
 clear hr
 go_enter Tryz.func191, Tryz.ntmps191
 go_wp2_with fail
 go_loopw [5, 6, 7, 8] (fun u _ _ _ wr => ∃ k : Nat, u = .int .i64 k ∧ k ≤ s.size ∧ Hid (∀ j (h : j < s.size), j < k → onC (bsO o) s[j] = true) ∧ wr = w) (fun u _ _ _ _ => s.size - (intOf u).toNat)
 case atStart => exact ⟨0, rfl, Nat.zero_le _, fun j _ h => absurd h (by omega), rfl⟩
 case round =>
  obtain ⟨k, rfl, hk, HZ, hw⟩ := hrel
  have hkb : (k : Int) ≤ 4294967280 := by omega
  rw [hw]
  clear hw
  by_cases hlt : k < s.size
  ·obtain ⟨b, hb⟩ : ∃ b, (letC s[k] || digC s[k]) = b := ⟨_, rfl⟩
   have HB := Lib.hid hb
   have HX := Lib.hid (ld_iff s[k])
   clear hb
   go_upto_region 5 with fail
   go_cut [7] from 9 to 55 (fun u wx => u = .bool b ∧ wx = w)
   case first =>
    go_wp2_with fail
    all_goals go_meet
    all_goals (case rel =>
     refine ⟨?_, by first | trivial | rfl⟩
     congr 1
     have h1 := HX.out
     have h2 := HB.out
     rw [h2] at h1
     cases b with
     | true =>
      have := h1.1 rfl
      first | rfl | (exfalso; omega) | (simp; omega)
     | false =>
      have h3 := mt h1.2 (by simp)
      first | rfl | (exfalso; omega) | (simp; omega))
   case rest =>
   obtain ⟨rfl, hwc⟩ := hcut
   rw [hwc]
   clear hwc
   go_wp2_with fail
   go_loopw [7, 8] (fun u7 u8 wx => ∃ j : Nat, u8 = .int .i64 j ∧ j ≤ o.size ∧ u7 = .bool (b || ((bsO o).take j).contains s[k]) ∧ wx = w) (fun _ u _ => o.size - (intOf u).toNat)
   case atStart => exact ⟨0, rfl, Nat.zero_le _, by simp, rfl⟩
   case round =>
    obtain ⟨j, rfl, hj, rfl, hw⟩ := hrel
    rw [hw]
    clear hw
    have hjb : (j : Int) ≤ 4294967280 := by omega
    by_cases hjt : j < o.size
    ·have HNX : Hid (((bsO o).take (j + 1)).contains s[k] = (((bsO o).take j).contains s[k] || s[k] == o[j])) := by
      rw [List.take_add_one, List.getElem?_eq_getElem (by rw [bs_len]; exact hjt), bs_at o j hjt]
      refine Lib.hid ?_
      rw [Bool.eq_iff_iff]
      simp
     have HEQ : Hid ((s[k] == o[j]) = ((s[k].toNat : Int) == (o[j].toNat : Int))) := Lib.hid (by
      rw [Bool.eq_iff_iff, beq_iff_eq, beq_iff_eq]
      constructor
      ·intro e; rw [e]
      ·intro e; exact UInt8.toNat_inj.1 (by omega))
     obtain ⟨v, hv⟩ : ∃ v, (b || ((bsO o).take j).contains s[k]) = v := ⟨_, rfl⟩
     have HV := Lib.hid hv
     rw [hv]
     clear hv
     cases v with
     | true =>
      go_wp2_with fail
      go_roundw
      case rel => exact ⟨j + 1, by go_num, by omega, by rw [HNX.out, ← Bool.or_assoc, HV.out, Bool.true_or], by first | trivial | rfl⟩
      case measure => simp [intOf]; omega
     | false =>
      go_wp2_with fail
      go_roundw
      case rel => exact ⟨j + 1, by go_num, by omega, by rw [HNX.out, ← Bool.or_assoc, HV.out, HEQ.out, Bool.false_or], by first | trivial | rfl⟩
      case measure => simp [intOf]; omega
    ·have hje : j = o.size := by omega
     have he : (bsO o).take j = bsO o := List.take_of_length_le (by rw [bs_len]; omega)
     rw [he]
     obtain ⟨v, hv⟩ : ∃ v, (b || (bsO o).contains s[k]) = v := ⟨_, rfl⟩
     have HV : Hid (onC (bsO o) s[k] = v) := Lib.hid (by unfold onC; rw [HB.out]; exact hv)
     rw [hv]
     clear hv he
     cases v with
     | true =>
      go_wp2_with fail
      go_roundw
      case rel => first | exact ⟨k + 1, by go_num, by omega, on_next HZ.out HV.out, by first | trivial | rfl⟩ | ((repeat apply Exists.intro); exact ⟨⟨by go_num, by omega, on_next HZ.out HV.out, by first | trivial | rfl⟩, rfl⟩)
      case measure => simp [intOf]; omega
     | false =>
      go_wp2_with fail
      go_ret
      exact ⟨ret_bool (only_false HR.out HV.out), rfl⟩
  ·obtain rfl : k = s.size := by omega
   go_wp2_with fail
   go_ret
   refine ⟨ret_bool ?_, rfl⟩
   rw [← HR.out]
   exact ((onlyB_iff s (bsO o)).2 fun j hj => HZ.out j hj hj).symm
set_option maxRecDepth 100000 in
theorem letter19_any (s : ByteArray) (hs : s.size < 4294967281) (w : World) :
  Calls Tryz.prog 137 #[.string s] w fun e w' => e = .returned (.bool (letterB (bsO s))) ∧ w' = w := by
 obtain ⟨r, hr⟩ : ∃ r, letterB (bsO s) = r := ⟨_, rfl⟩
 rw [hr]
 unfold letterB at hr
 rw [bs_len] at hr
 have HO := Lib.hid (letters19_any s ⟨#[]⟩ hs (by decide) w)
 obtain ⟨q, hq⟩ : ∃ q, onlyB (bsO s) (bsO ⟨#[]⟩) = q := ⟨_, rfl⟩
 rw [hq] at HO
 have hq : onlyB (bsO s) [] = q := hq
 rw [hq] at hr
 have HR := Lib.hid hr
 clear hr hq
 go_enter Tryz.func137, Tryz.ntmps137
 go_wp2_with (first | (go_at_call 191; refine HO.out.mono ?_; rintro e w' ⟨rfl, rfl⟩) | fail)
 all_goals go_ret
 all_goals refine ⟨ret_bool ?_, rfl⟩
 all_goals rw [← HR.out]
 all_goals clear HR
 all_goals cases q <;> simp <;> omega
set_option maxRecDepth 100000 in
theorem plain19_any (s : ByteArray) (hs : s.size < 4294967281) (w : World) :
  Calls Tryz.prog 192 #[.string s] w fun e w' => e = .returned (.bool (plainB (bsO s))) ∧ w' = w := by
 obtain ⟨r, hr⟩ : ∃ r, plainB (bsO s) = r := ⟨_, rfl⟩
 rw [hr]
 unfold plainB at hr
 rw [bs_len] at hr
 have HO := Lib.hid (letters19_any s ⟨#[43, 45]⟩ hs (by decide) w)
 obtain ⟨q, hq⟩ : ∃ q, onlyB (bsO s) (bsO ⟨#[43, 45]⟩) = q := ⟨_, rfl⟩
 rw [hq] at HO
 have hq : onlyB (bsO s) [43, 45] = q := hq
 rw [hq] at hr
 have HR := Lib.hid hr
 clear hr hq
 go_enter Tryz.func192, Tryz.ntmps192
 go_wp2_with (first | (go_at_call 191; refine HO.out.mono ?_; rintro e w' ⟨rfl, rfl⟩) | fail)
 all_goals go_ret
 all_goals refine ⟨ret_bool ?_, rfl⟩
 all_goals rw [← HR.out]
 all_goals clear HR
 all_goals cases q <;> simp <;> omega
end Go.Proofs.YtlbglinpgjlbkaaGreatDoor
namespace Go.Proofs.YtlbglinpgjlbkaaGreatDoor
open Go.RowKit Wk

theorem rep_len {s : Bs} (h : Lib.count s [37, 115] = 1) : (Lib.replace s [37, 115] [] 1).length ≤ s.length := by
 obtain ⟨c1, c2⟩ := count_pct s
 cases hs : cutPct s with
 | none =>
  have := c1 hs
  omega
 | some p =>
  obtain ⟨a, b⟩ := p
  obtain ⟨d1, d2⟩ := c2 a b hs
  have hb : cutPct b = none := by
   cases hq : cutPct b with
   | none => rfl
   | some q => exact absurd h (d2 (by rw [hq]; simp))
  have hr : Lib.replace s [37, 115] [] 1 = a ++ b := by
   have h := cutPct_index s
   have hi : Lib.index s [37, 115] ≠ -1 := fun q => by
    rw [if_pos q, hs] at h
    exact absurd h (by simp)
   rw [if_neg hi, hs] at h
   injection h with h
   injection h with h1 h2
   have hnum : Lib.replaceNum s [37, 115] 1 = 1 := by
    unfold Lib.replaceNum
    rw [d1 hb, if_neg (by decide)]
    rfl
   have hbq : ¬(Lib.index s [37, 115] == -1) = true := by simpa using hi
   unfold Lib.replace
   rw [if_neg (by decide), hnum, Lib.replaceK, if_neg hbq, List.append_nil, ← h1, Lib.replaceK]
   exact congrArg (a ++ ·) h2.symm
  have he := cutPct_eq hs
  rw [hr, he]
  simp
  omega
set_option maxRecDepth 100000 in
set_option maxHeartbeats 2000000 in
theorem isFormat_any (s : ByteArray) (hs : s.size < 4294967281) (w : World) (hg : Glob w) :
  Calls Tryz.prog 127 #[.string s] w fun e w' => e = .returned (.bool (fmtB (bsO s))) ∧ Below w.heap.size w w' := by
 obtain ⟨r, hr⟩ : ∃ r, fmtB (bsO s) = r := ⟨_, rfl⟩
 rw [hr]
 rw [← fmt_prog] at hr
 obtain ⟨m, hm⟩ := hg
 have HCT : Hid (Calls Tryz.prog 40 #[.string s, .string ⟨#[37, 115]⟩] w fun e w' => e = .returned (.int .i64 (Lib.count (bsO s) [37, 115])) ∧ w' = w) := Lib.hid (Tryz.strings_Count s ⟨#[37, 115]⟩ m w hs hm (by decide))
 obtain ⟨n, hn⟩ : ∃ n, Lib.count (bsO s) [37, 115] = n := ⟨_, rfl⟩
 go_enter Tryz.func127, Tryz.ntmps127
 by_cases h1 : n = 1
 ·have HRP : Hid (Calls Tryz.prog 186 #[.string s, .string ⟨#[37, 115]⟩, .string ⟨#[]⟩, .int .i64 1] w fun e w' => e = .returned (.string ⟨(Lib.replace (bsO s) [37, 115] [] 1).toArray⟩) ∧ Below w.heap.size w w') := Lib.hid (Tryz.strings_Replace s ⟨#[37, 115]⟩ ⟨#[]⟩ 1 m w hs hm (by decide) (by show s.size + Lib.countB s ⟨#[37, 115]⟩ * 0 ≤ _; omega))
  have hl := rep_len (s := bsO s) (by rw [hn]; exact h1)
  obtain ⟨T, hT⟩ : ∃ T : ByteArray, ⟨(Lib.replace (bsO s) [37, 115] [] 1).toArray⟩ = T := ⟨_, rfl⟩
  have hTb : Lib.replace (bsO s) [37, 115] [] 1 = bsO T := by rw [← hT]
  unfold fmtP at hr
  rw [hn, if_pos h1, hTb, bs_len] at hr
  rw [hTb, bs_len, bs_len] at hl
  rw [hT] at HRP
  rw [hn, h1] at HCT
  have HO : Hid (∀ w', Calls Tryz.prog 184 #[.string T, .string ⟨#[43, 45]⟩] w' fun e w'' => e = .returned (.bool (onlyB (bsO T) [43, 45])) ∧ w'' = w') := Lib.hid fun w' => only_any T ⟨#[43, 45]⟩ (by omega) w'
  obtain ⟨q, hq⟩ : ∃ q, onlyB (bsO T) [43, 45] = q := ⟨_, rfl⟩
  rw [hq] at HO hr
  have HR := Lib.hid hr
  clear hr hq hn h1 hTb hT hm
  go_wp2_with (first | (go_at_call 40; refine HCT.out.mono ?_; rintro e w' ⟨rfl, hw⟩; rw [hw]; clear hw) | (go_at_call 186; refine HRP.out.mono ?_; rintro e w' ⟨rfl, hb⟩) | (go_at_call 184; refine (HO.out _).mono ?_; rintro e w' ⟨rfl, hw⟩; rw [hw]; clear hw) | fail)
  all_goals go_ret
  all_goals refine ⟨ret_bool ?_, by assumption⟩
  all_goals rw [← HR.out]
  all_goals clear HR
  all_goals cases q <;> simp <;> omega
 ·have HCU : Hid (Calls Tryz.prog 89 #[.string s, .string ⟨#[47]⟩] w fun e w' => e = .returned (.tuple #[.string ⟨(Lib.cut (bsO s) [47]).1.toArray⟩, .string ⟨(Lib.cut (bsO s) [47]).2.1.toArray⟩, .bool (Lib.cut (bsO s) [47]).2.2]) ∧ Below w.heap.size w w') := Lib.hid ((Tryz.strings_Cut s ⟨#[47]⟩ m w hs hm).mono fun e w' ⟨h1, k, h2⟩ => ⟨h1, by rw [h2]; exact below_drewN (Below.refl _ _) _⟩)
  have gn : ((n : Int) == 1) = false := by simp; omega
  unfold fmtP at hr
  rw [hn, if_neg h1] at hr
  rw [hn] at HCT
  have hlen : (Lib.cut (bsO s) [47]).1.length ≤ s.size ∧ (Lib.cut (bsO s) [47]).2.1.length ≤ s.size := by
   rw [cut_one]
   by_cases h : (bsO s).contains 47 = true
   ·rw [if_pos h]
    have := drop_lessC 47 h
    rw [bs_len] at this
    refine ⟨?_, by show ((bsO s).dropWhile (· != 47)).tail.length ≤ _; omega⟩
    have := (List.takeWhile_prefix (p := (· != 47)) (l := bsO s)).length_le
    rw [bs_len] at this
    exact this
   ·rw [if_neg h]
    exact ⟨by show (bsO s).length ≤ _; rw [bs_len]; exact Nat.le_refl _, Nat.zero_le _⟩
  obtain ⟨A, hA⟩ : ∃ T : ByteArray, ⟨(Lib.cut (bsO s) [47]).1.toArray⟩ = T := ⟨_, rfl⟩
  obtain ⟨B, hB⟩ : ∃ T : ByteArray, ⟨(Lib.cut (bsO s) [47]).2.1.toArray⟩ = T := ⟨_, rfl⟩
  have hAb : (Lib.cut (bsO s) [47]).1 = bsO A := by rw [← hA]
  have hBb : (Lib.cut (bsO s) [47]).2.1 = bsO B := by rw [← hB]
  rw [hA, hB] at HCU
  rw [hAb, hBb] at hr
  rw [hAb, hBb, bs_len, bs_len] at hlen
  have HPA : Hid (∀ w', Calls Tryz.prog 187 #[.string A] w' fun e w'' => e = .returned (.bool (plainB (bsO A))) ∧ w'' = w') := Lib.hid fun w' => isPlain_any A (by omega) w'
  have HPB : Hid (∀ w', Calls Tryz.prog 187 #[.string B] w' fun e w'' => e = .returned (.bool (plainB (bsO B))) ∧ w'' = w') := Lib.hid fun w' => isPlain_any B (by omega) w'
  have HPS : Hid (∀ w', Calls Tryz.prog 187 #[.string s] w' fun e w'' => e = .returned (.bool (plainB (bsO s))) ∧ w'' = w') := Lib.hid fun w' => isPlain_any s hs w'
  obtain ⟨c, hc⟩ : ∃ c, (Lib.cut (bsO s) [47]).2.2 = c := ⟨_, rfl⟩
  rw [hc] at HCU hr
  obtain ⟨pa, hpa⟩ : ∃ c, plainB (bsO A) = c := ⟨_, rfl⟩
  obtain ⟨pb, hpb⟩ : ∃ c, plainB (bsO B) = c := ⟨_, rfl⟩
  rw [hpa] at HPA hr
  rw [hpb] at HPB hr
  have HR := Lib.hid hr
  clear hr hc hA hB hAb hBb hpa hpb hlen hm hn h1
  cases c with
  | true =>
   cases pa with
   | true =>
    go_wp2_with (first | (go_at_call 40; refine HCT.out.mono ?_; rintro e w' ⟨rfl, hw⟩; rw [hw]; clear hw) | (go_at_call 89; refine HCU.out.mono ?_; rintro e w' ⟨rfl, hb⟩) | (go_at_call 187; (first | (with_reducible refine (HPA.out _).mono ?_) | (with_reducible refine (HPB.out _).mono ?_)); rintro e w' ⟨rfl, hw⟩; rw [hw]; clear hw) | fail)
    go_ret
    exact ⟨ret_bool (by rw [← HR.out]; rfl), by assumption⟩
   | false =>
    go_wp2_with (first | (go_at_call 40; refine HCT.out.mono ?_; rintro e w' ⟨rfl, hw⟩; rw [hw]; clear hw) | (go_at_call 89; refine HCU.out.mono ?_; rintro e w' ⟨rfl, hb⟩) | (go_at_call 187; (first | (with_reducible refine (HPA.out _).mono ?_) | (with_reducible refine (HPB.out _).mono ?_)); rintro e w' ⟨rfl, hw⟩; rw [hw]; clear hw) | fail)
    go_ret
    exact ⟨ret_bool (by rw [← HR.out]; rfl), by assumption⟩
  | false =>
   go_wp2_with (first | (go_at_call 40; refine HCT.out.mono ?_; rintro e w' ⟨rfl, hw⟩; rw [hw]; clear hw) | (go_at_call 89; refine HCU.out.mono ?_; rintro e w' ⟨rfl, hb⟩) | (go_at_call 187; (with_reducible refine (HPS.out _).mono ?_); rintro e w' ⟨rfl, hw⟩; rw [hw]; clear hw) | fail)
   go_ret
   exact ⟨ret_bool (by rw [← HR.out]; rfl), by assumption⟩
theorem fmtF_slash {s : Bs} {k : Nat} (hk : k < s.length) (h : s[k] = 47) : fmtF (s.take k) (s.drop k) = (plainB (s.take k) && plainB (s.drop (k + 1))) := by
 rw [List.drop_eq_getElem_cons hk, fmtF, if_pos h]
theorem fmtF_pct {s : Bs} {k : Nat} (hk : k + 1 < s.length) (h : s[k] = 37) (h2 : s[k + 1] = 115) : fmtF (s.take k) (s.drop k) = (decide (1 ≤ (s.take k ++ s.drop (k + 2)).length) && decide ((s.take k ++ s.drop (k + 2)).length ≤ 4) && onlyB (s.take k ++ s.drop (k + 2)) [43, 45]) := by
 rw [List.drop_eq_getElem_cons (show k < s.length by omega), fmtF, if_neg (by rw [h]; decide), if_pos ⟨h, by rw [List.drop_eq_getElem_cons hk]; simp [h2]⟩, List.tail_drop]
theorem fmtF_go {s : Bs} {k : Nat} (hk : k < s.length) (h : ¬s[k] = 47) (h2 : ¬(s[k] = 37 ∧ s[k + 1]? = some 115)) : fmtF (s.take k) (s.drop k) = fmtF (s.take (k + 1)) (s.drop (k + 1)) := by
 rw [List.drop_eq_getElem_cons hk, fmtF, if_neg h, if_neg, List.take_add_one, List.getElem?_eq_getElem hk]
 ·rfl
 ·rw [List.head?_drop]
  exact h2
set_option maxRecDepth 100000 in
set_option maxHeartbeats 4000000 in
theorem format19_any (s : ByteArray) (hs : s.size < 4294967281) (w : World) :
  Calls Tryz.prog 138 #[.string s] w fun e w' => e = .returned (.bool (fmtB (bsO s))) ∧ Below w.heap.size w w' := by
 obtain ⟨r, hr⟩ : ∃ r, fmtB (bsO s) = r := ⟨_, rfl⟩
 rw [hr]
 rw [← fmt_ref] at hr
 have HPS := Lib.hid (plain19_any s hs w)
 go_enter Tryz.func138, Tryz.ntmps138
 unfold fmtR at hr
 cases hp : plainB (bsO s) with
 | true =>
  rw [hp] at HPS hr
  have HR := Lib.hid hr
  clear hr hp
  go_wp2_with (first | (go_at_call 192; refine HPS.out.mono ?_; rintro e w' ⟨rfl, hw⟩; rw [hw]; clear hw) | fail)
  go_ret
  exact ⟨ret_bool (by rw [← HR.out]; rfl), Below.refl _ _⟩
 | false =>
  rw [hp] at HPS hr
  rw [if_neg (by simp)] at hr
  have HR := Lib.hid hr
  clear hr hp
  go_wp2_with (first | (go_at_call 192; refine HPS.out.mono ?_; rintro e w' ⟨rfl, hw⟩; rw [hw]; clear hw) | fail)
  clear HPS
  go_loopw [3, 4] (fun u _ wr => ∃ k : Nat, u = .int .i64 k ∧ k ≤ s.size ∧ Hid (fmtF ((bsO s).take k) ((bsO s).drop k) = r) ∧ wr = w) (fun u _ _ => s.size - (intOf u).toNat)
  case atStart => exact ⟨0, rfl, Nat.zero_le _, HR, rfl⟩
  case round =>
   obtain ⟨k, rfl, hk, HF, hw⟩ := hrel
   have hkb : (k : Int) ≤ 4294967280 := by omega
   rw [hw]
   clear hw
   by_cases hlt : k < s.size
   ·have hkl : k < (bsO s).length := by rw [bs_len]; exact hlt
    have HXK : Hid ((bsO s)[k] = s[k]) := bs_at s k hlt
    by_cases e47 : (s[k].toNat : Int) = 47
    ·have HFF : Hid ((plainB ((bsO s).take k) && plainB ((bsO s).drop (k + 1))) = r) := Lib.hid (by rw [← HF.out]; exact (fmtF_slash hkl (by rw [HXK.out]; exact (toNat_ne (n := 47) (by omega)).1 e47)).symm)
     have g47 : ((s[k].toNat : Int) == 47) = true := by rw [e47]; rfl
     obtain ⟨A, hA⟩ : ∃ T, s.extract 0 k = T := ⟨_, rfl⟩
     obtain ⟨B, hB⟩ : ∃ T, s.extract (k + 1) s.size = T := ⟨_, rfl⟩
     have hAb : bsO A = (bsO s).take k := by rw [← hA, bs_ext, List.drop_zero]
     have hBb : bsO B = (bsO s).drop (k + 1) := by rw [← hB, bs_ext, List.take_of_length_le (by rw [bs_len]; exact Nat.le_refl _)]
     have hAs : A.size ≤ s.size := by have := congrArg List.length hAb; rw [bs_len, List.length_take] at this; omega
     have hBs : B.size ≤ s.size := by have := congrArg List.length hBb; rw [bs_len, List.length_drop, bs_len] at this; omega
     have HPA : Hid (∀ w', Calls Tryz.prog 192 #[.string A] w' fun e w'' => e = .returned (.bool (plainB (bsO A))) ∧ w'' = w') := Lib.hid fun w' => plain19_any A (by omega) w'
     have HPB : Hid (∀ w', Calls Tryz.prog 192 #[.string B] w' fun e w'' => e = .returned (.bool (plainB (bsO B))) ∧ w'' = w') := Lib.hid fun w' => plain19_any B (by omega) w'
     rw [← hAb, ← hBb] at HFF
     obtain ⟨pa, hpa⟩ : ∃ c, plainB (bsO A) = c := ⟨_, rfl⟩
     obtain ⟨pb, hpb⟩ : ∃ c, plainB (bsO B) = c := ⟨_, rfl⟩
     rw [hpa] at HPA HFF
     rw [hpb] at HPB HFF
     clear hAb hBb hAs hBs hpa hpb e47
     cases pa with
     | true =>
      go_wp2_with (first | (go_at_call 192; (first | (with_reducible refine (HPA.out _).mono ?_) | (with_reducible refine (HPB.out _).mono ?_)); rintro e w' ⟨rfl, hw⟩; rw [hw]; clear hw) | fail)
      go_ret
      exact ⟨ret_bool (by rw [← HFF.out]; rfl), Below.refl _ _⟩
     | false =>
      go_wp2_with (first | (go_at_call 192; (first | (with_reducible refine (HPA.out _).mono ?_) | (with_reducible refine (HPB.out _).mono ?_)); rintro e w' ⟨rfl, hw⟩; rw [hw]; clear hw) | fail)
      go_ret
      exact ⟨ret_bool (by rw [← HFF.out]; rfl), Below.refl _ _⟩
    ·have g47 : ((s[k].toNat : Int) == 47) = false := by simpa using e47
     have H47 : Hid (¬(bsO s)[k] = 47) := Lib.hid (by rw [HXK.out]; exact fun q => e47 ((toNat_ne (n := 47) (by omega)).2 q))
     clear e47
     by_cases hp : k + 1 < s.size ∧ (bsO s)[k] = 37 ∧ (bsO s)[k + 1]? = some 115
     ·obtain ⟨hp1, hp2, hp3⟩ := hp
      have hk2 : k + 1 < (bsO s).length := by rw [bs_len]; exact hp1
      have hp4 : (bsO s)[k + 1] = 115 := by rw [List.getElem?_eq_getElem hk2] at hp3; injection hp3
      have HFF := Lib.hid ((fmtF_pct hk2 hp2 hp4).symm.trans HF.out)
      have hex : s.extract k (k + 2) = ⟨#[37, 115]⟩ := by
       apply bs_inj
       rw [bs_ext, List.drop_take, show k + 2 - k = 2 by omega, List.drop_eq_getElem_cons hkl, List.drop_eq_getElem_cons hk2, hp2, hp4]
       rfl
      have hexl : ((s.extract k (k + 2)).toList == [37, 115]) = true := by rw [hex, Lib.toList_data]; rfl
      have hb1 : (k : Int) + 1 < s.size := by omega
      have hb2 : (k : Int) + 2 ≤ s.size := by omega
      obtain ⟨A, hA⟩ : ∃ T, s.extract 0 k ++ s.extract (k + 2) s.size = T := ⟨_, rfl⟩
      have hAb : bsO A = (bsO s).take k ++ (bsO s).drop (k + 2) := by rw [← hA, bs_app, bs_ext, bs_ext, List.drop_zero, List.take_of_length_le (i := s.size) (by rw [bs_len]; exact Nat.le_refl _)]
      have hAs : A.size ≤ s.size := by have := congrArg List.length hAb; rw [bs_len, List.length_append, List.length_take, List.length_drop, bs_len] at this; omega
      rw [← hAb, bs_len] at HFF
      have HPA : Hid (∀ w', Calls Tryz.prog 191 #[.string A, .string ⟨#[43, 45]⟩] w' fun e w'' => e = .returned (.bool (onlyB (bsO A) [43, 45])) ∧ w'' = w') := Lib.hid fun w' => letters19_any A ⟨#[43, 45]⟩ (by omega) (by decide) w'
      obtain ⟨q, hq⟩ : ∃ q, onlyB (bsO A) [43, 45] = q := ⟨_, rfl⟩
      rw [hq] at HPA HFF
      have hwr : IntKind.i64.wrap ((k : Int) + 2) = (k : Int) + 2 := by rw [IntKind.wrap_i64]; omega
      have hz1 : (s.extract 0 k).size ≤ 4294967280 := by have := congrArg List.length (bs_ext s 0 k); rw [bs_len, List.drop_zero, List.length_take, bs_len] at this; omega
      have hz2 : (s.extract (k + 2) s.size).size ≤ 4294967280 := by have := congrArg List.length (bs_ext s (k + 2) s.size); rw [bs_len, List.length_drop, List.length_take, bs_len] at this; omega
      have hz1' : ((s.extract 0 k).size : Int) ≤ 4294967280 := by omega
      have hz2' : ((s.extract (k + 2) s.size).size : Int) ≤ 4294967280 := by omega
      have hsl : ∀ W : World, (Instr.slice 9 (.string s) none (some (.int .i64 (k : Int))) none).run Tryz.prog W = .ok (.string (s.extract 0 k)) W := fun W => by
       have := run_slice_string_h (P := Tryz.prog) (w := W) (t := 9) (s := s) Tryz.underlying9 .i64 (k : Int) (by omega) (by omega)
       rw [Int.toNat_natCast] at this
       exact this
      have hsl2 : ∀ W : World, (Instr.slice 9 (.string s) (some (.int .i64 ((k : Int) + 2))) none none).run Tryz.prog W = .ok (.string (s.extract (k + 2) s.size)) W := fun W => by
       have := run_slice_string_l (P := Tryz.prog) (w := W) (t := 9) (s := s) Tryz.underlying9 .i64 ((k : Int) + 2) (by omega) (by omega)
       rw [show ((k : Int) + 2).toNat = k + 2 by omega] at this
       exact this
      have hcut2 : ∀ W : World, Below w.heap.size w W → W = W := fun _ _ => rfl
      clear hp2 hp3 hp4 hex hAb hAs hq hcut2
      go_upto_region 9 with fail
      go_cut [4] from 7 to 60 (fun u wx => u = .string A ∧ Hid (Below w.heap.size w wx))
      case first =>
       go_region
       all_goals go_wp2_with fail
       all_goals go_meet
       all_goals (case rel => exact ⟨by first | rfl | rw [hA], (Below.refl _ _).drew⟩)
      case rest =>
      obtain ⟨rfl, HBc⟩ := hcut
      generalize wc = V at *
      go_wp2_with (first | (go_at_call 191; refine (HPA.out _).mono ?_; rintro e w' ⟨rfl, hw⟩; rw [hw]; clear hw) | fail)
      all_goals go_ret
      all_goals refine ⟨ret_bool ?_, HBc.out⟩
      all_goals rw [← HFF.out]
      all_goals clear HFF
      all_goals cases q <;> simp <;> omega
     ·have HFN := Lib.hid ((fmtF_go hkl H47.out (fun q => hp ⟨by
       have := q.2
       rw [List.getElem?_eq_some_iff] at this
       obtain ⟨h, _⟩ := this
       rw [bs_len] at h
       exact h, q.1, q.2⟩)).symm.trans HF.out)
      by_cases hb1 : (k : Int) + 1 < s.size
      ·have hk2 : k + 1 < (bsO s).length := by rw [bs_len]; omega
       have hexl : ((s.extract k (k + 2)).toList == [37, 115]) = false := by
        rw [Lib.toList_data]
        show (bsO (s.extract k (k + 2)) == [37, 115]) = false
        rw [bs_ext, List.drop_take, show k + 2 - k = 2 by omega, List.drop_eq_getElem_cons hkl, List.drop_eq_getElem_cons hk2, beq_eq_false_iff_ne]
        intro e
        simp at e
        exact hp ⟨by omega, e.1, by rw [List.getElem?_eq_getElem hk2]; exact congrArg some e.2⟩
       have hb2 : (k : Int) + 2 ≤ s.size := by omega
       clear hp
       go_wp2_with fail
       go_roundw
       case rel => exact ⟨k + 1, by go_num, by omega, HFN, by first | trivial | rfl⟩
       case measure => simp [intOf]; omega
      ·clear hp
       go_wp2_with fail
       go_roundw
       case rel => exact ⟨k + 1, by go_num, by omega, HFN, by first | trivial | rfl⟩
       case measure => simp [intOf]; omega
   ·obtain rfl : k = s.size := by omega
    have HFF : Hid (false = r) := by
     have := HF.out
     rw [List.drop_of_length_le (by rw [bs_len]; exact Nat.le_refl _)] at this
     exact Lib.hid this
    go_wp2_with fail
    go_ret
    exact ⟨ret_bool HFF.out, Below.refl _ _⟩
end Go.Proofs.YtlbglinpgjlbkaaGreatDoor
