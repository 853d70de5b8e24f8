import Derived.Test.YtlbglinpgjlbkaaGreatDoorWkC6
/- Zone texts: the reference's dayed and On. Printed by gen_c7.py. -/
namespace Go.Proofs.YtlbglinpgjlbkaaGreatDoor
open Go.RowKit Wk Go.Maps

theorem neg_at2 (s : ByteArray) (h : 0 < s.size) : ((s[0].toNat : Int) == 45) = negB (bsO s) := by
 rw [Bool.eq_iff_iff, neg_at s]
 simp only [beq_iff_eq]
 exact ⟨fun q => ⟨h, q⟩, fun ⟨_, q⟩ => q⟩
theorem neg_nil (s : ByteArray) (h : s.size = 0) : negB (bsO s) = false := by
 have : bsO s = [] := List.eq_nil_of_length_eq_zero (by rw [bs_len]; exact h)
 rw [this]
 rfl
theorem numV_pos {s : Bs} (h : negB s = false) : 0 ≤ numV s := by
 unfold numV
 rw [if_neg (by rw [h]; simp)]
 omega
theorem day_way (s : Bs) : dayM s = if (numM s (-4611686018427387904) 4611686018427387904).2 = 3 ∨ negB s = true then (0, 3) else if (numM s (-4611686018427387904) 4611686018427387904).2 ≠ 0 ∨ (numM s (-4611686018427387904) 4611686018427387904).1 < 1 ∨ 31 < (numM s (-4611686018427387904) 4611686018427387904).1 then (0, 2) else ((numM s (-4611686018427387904) 4611686018427387904).1, 0) := by
 unfold dayM
 by_cases hn : negB s = true
 ·rw [if_pos hn, if_pos (.inr hn)]
 ·rw [if_neg hn]
  have hp := numV_pos (by simpa using hn)
  unfold numM
  by_cases hf : formN s = false
  ·rw [if_pos hf, if_pos hf, if_pos (.inl rfl)]
  ·rw [if_neg hf, if_neg hf]
   by_cases h1 : numV s < -4611686018427387904 ∨ 4611686018427387904 < numV s
   ·rw [if_pos h1, if_pos (by omega), if_neg (by rintro (q | q); exact absurd (show (2 : Int) = 3 from q) (by decide); exact hn q), if_pos (.inl (by decide))]
   ·rw [if_neg h1]
    by_cases h2 : numV s < 1 ∨ 31 < numV s
    ·rw [if_pos h2, if_neg (by rintro (q | q); exact absurd (show (0 : Int) = 3 from q) (by decide); exact hn q), if_pos (.inr h2)]
    ·rw [if_neg h2, if_neg (by rintro (q | q); exact absurd (show (0 : Int) = 3 from q) (by decide); exact hn q), if_neg (by rintro (q | q); exact q rfl; exact h2 q)]

set_option maxRecDepth 100000 in
set_option maxHeartbeats 4000000 in
theorem dayed_any (s : ByteArray) (hs : s.size < 4294967281) (w : World) :
  Calls Tryz.prog 94 #[.string s] w fun e w' => e = .returned (.tuple #[.int .i64 (dayM (bsO s)).1, .int .i64 (dayM (bsO s)).2]) ∧ w' = w := by
 obtain ⟨r, hr⟩ : ∃ r, dayM (bsO s) = r := ⟨_, rfl⟩
 rw [hr]
 rw [day_way] at hr
 obtain ⟨N, hN⟩ : ∃ N, numM (bsO s) (-4611686018427387904) 4611686018427387904 = N := ⟨_, rfl⟩
 rw [hN] at hr
 have HNU : Hid (∀ w', Calls Tryz.prog 132 #[.string s, .int .i64 (-4611686018427387904), .int .i64 4611686018427387904] w' fun e w'' => e = .returned (.tuple #[.int .i64 N.1, .int .i64 N.2]) ∧ w'' = w') := Lib.hid (by rw [← hN]; exact fun w' => number18_any s hs _ _ (by decide) (by decide) w')
 obtain ⟨ng, hng⟩ : ∃ q, negB (bsO s) = q := ⟨_, rfl⟩
 rw [hng] at hr
 clear hN
 obtain ⟨n, e⟩ := N
 simp only at hr
 go_enter Tryz.func94, Tryz.ntmps94
 by_cases he : e = 3
 ·have g1 : (e == 3) = true := by simpa using he
  have HR : Hid (r = (0, 3)) := Lib.hid (by rw [← hr, if_pos (.inl he)])
  clear hr he hng
  go_wp2_with (first | (go_at_call 132; refine (HNU.out _).mono ?_; rintro e w' ⟨rfl, hw⟩; rw [hw]; clear hw) | fail)
  go_ret2
  exact ⟨by rw [HR.out]; rfl, rfl⟩
 ·have g1 : (e == 3) = false := by simpa using he
  cases ng with
  | true =>
   have h0 : 0 < s.size := by
    rcases Nat.eq_zero_or_pos s.size with q | q
    ·rw [neg_nil s q] at hng; cases hng
    ·exact q
   have g2 : ((s[0].toNat : Int) == 45) = true := (neg_at2 s h0).trans hng
   have HR : Hid (r = (0, 3)) := Lib.hid (by rw [← hr, if_pos (.inr rfl)])
   clear hr he hng
   go_wp2_with (first | (go_at_call 132; refine (HNU.out _).mono ?_; rintro e w' ⟨rfl, hw⟩; rw [hw]; clear hw) | fail)
   all_goals go_ret2
   all_goals exact ⟨by rw [HR.out]; rfl, rfl⟩
  | false =>
   rw [if_neg (by rintro (q | q); exact he q; cases q)] at hr
   rcases Nat.eq_zero_or_pos s.size with h0 | h0
   ·by_cases he0 : e = 0
    ·have g3 : (e != 0) = false := by simpa using he0
     by_cases h1 : n < 1
     ·have HR : Hid (r = (0, 2)) := Lib.hid (by rw [← hr, if_pos (.inr (.inl h1))])
      clear hr
      go_wp2_with (first | (go_at_call 132; refine (HNU.out _).mono ?_; rintro e w' ⟨rfl, hw⟩; rw [hw]; clear hw) | fail)
      all_goals go_ret2
      all_goals exact ⟨by rw [HR.out]; rfl, rfl⟩
     by_cases h2 : 31 < n
     ·have HR : Hid (r = (0, 2)) := Lib.hid (by rw [← hr, if_pos (.inr (.inr h2))])
      clear hr
      go_wp2_with (first | (go_at_call 132; refine (HNU.out _).mono ?_; rintro e w' ⟨rfl, hw⟩; rw [hw]; clear hw) | fail)
      all_goals go_ret2
      all_goals exact ⟨by rw [HR.out]; rfl, rfl⟩
     have HR : Hid (r = (n, 0)) := Lib.hid (by rw [← hr, if_neg (by rintro (q | q | q); exact q he0; exact h1 q; exact h2 q)])
     clear hr
     go_wp2_with (first | (go_at_call 132; refine (HNU.out _).mono ?_; rintro e w' ⟨rfl, hw⟩; rw [hw]; clear hw) | fail)
     all_goals go_ret2
     all_goals exact ⟨by rw [HR.out]; rfl, rfl⟩
    ·have g3 : (e != 0) = true := by simpa using he0
     have HR : Hid (r = (0, 2)) := Lib.hid (by rw [← hr, if_pos (.inl he0)])
     clear hr
     go_wp2_with (first | (go_at_call 132; refine (HNU.out _).mono ?_; rintro e w' ⟨rfl, hw⟩; rw [hw]; clear hw) | fail)
     all_goals go_ret2
     all_goals exact ⟨by rw [HR.out]; rfl, rfl⟩
   ·have g2 : ((s[0].toNat : Int) == 45) = false := (neg_at2 s h0).trans hng
    by_cases he0 : e = 0
    ·have g3 : (e != 0) = false := by simpa using he0
     by_cases h1 : n < 1
     ·have HR : Hid (r = (0, 2)) := Lib.hid (by rw [← hr, if_pos (.inr (.inl h1))])
      clear hr
      go_wp2_with (first | (go_at_call 132; refine (HNU.out _).mono ?_; rintro e w' ⟨rfl, hw⟩; rw [hw]; clear hw) | fail)
      all_goals go_ret2
      all_goals exact ⟨by rw [HR.out]; rfl, rfl⟩
     by_cases h2 : 31 < n
     ·have HR : Hid (r = (0, 2)) := Lib.hid (by rw [← hr, if_pos (.inr (.inr h2))])
      clear hr
      go_wp2_with (first | (go_at_call 132; refine (HNU.out _).mono ?_; rintro e w' ⟨rfl, hw⟩; rw [hw]; clear hw) | fail)
      all_goals go_ret2
      all_goals exact ⟨by rw [HR.out]; rfl, rfl⟩
     have HR : Hid (r = (n, 0)) := Lib.hid (by rw [← hr, if_neg (by rintro (q | q | q); exact q he0; exact h1 q; exact h2 q)])
     clear hr
     go_wp2_with (first | (go_at_call 132; refine (HNU.out _).mono ?_; rintro e w' ⟨rfl, hw⟩; rw [hw]; clear hw) | fail)
     all_goals go_ret2
     all_goals exact ⟨by rw [HR.out]; rfl, rfl⟩
    ·have g3 : (e != 0) = true := by simpa using he0
     have HR : Hid (r = (0, 2)) := Lib.hid (by rw [← hr, if_pos (.inl he0)])
     clear hr
     go_wp2_with (first | (go_at_call 132; refine (HNU.out _).mono ?_; rintro e w' ⟨rfl, hw⟩; rw [hw]; clear hw) | fail)
     all_goals go_ret2
     all_goals exact ⟨by rw [HR.out]; rfl, rfl⟩

theorem on_ref (s : Bs) : onM s = if 4 < s.length ∧ [108, 97, 115, 116].isPrefixOf s = true then (if (findM' wdayL (s.drop 4)).2 ≠ 0 then (on0, 3) else (⟨2, (findM' wdayL (s.drop 4)).1, 0⟩, 0)) else
  if 5 < s.length ∧ ((s.drop 3).take 2 = [62, 61] ∨ (s.drop 3).take 2 = [60, 61]) then (if (findM' wdayL (s.take 3)).2 ≠ 0 then (on0, 3) else if (dayM (s.drop 5)).2 ≠ 0 then (on0, (dayM (s.drop 5)).2) else (⟨if (s.drop 3).take 2 = [62, 61] then 3 else 4, (findM' wdayL (s.take 3)).1, (dayM (s.drop 5)).1⟩, 0)) else
  if (dayM s).2 ≠ 0 then (on0, (dayM s).2) else (⟨1, 0, (dayM s).1⟩, 0) := by
 unfold onM
 obtain ⟨X1, h1⟩ : ∃ X, (if (findM' wdayL (s.drop 4)).2 ≠ 0 then (on0, (3 : Int)) else (⟨2, (findM' wdayL (s.drop 4)).1, 0⟩, 0)) = X := ⟨_, rfl⟩
 obtain ⟨X2, h2⟩ : ∃ X, (if (findM' wdayL (s.take 3)).2 ≠ 0 then (on0, 3) else if (dayM (s.drop 5)).2 ≠ 0 then (on0, (dayM (s.drop 5)).2) else (⟨if (s.drop 3).take 2 = [62, 61] then 3 else 4, (findM' wdayL (s.take 3)).1, (dayM (s.drop 5)).1⟩, 0)) = X := ⟨_, rfl⟩
 obtain ⟨X3, h3⟩ : ∃ X, (if (dayM s).2 ≠ 0 then (on0, (dayM s).2) else (⟨1, 0, (dayM s).1⟩, 0)) = X := ⟨_, rfl⟩
 rw [h1, h2, h3]
 by_cases hp : [108, 97, 115, 116].isPrefixOf s = true
 ·rw [if_pos hp]
  by_cases h4 : 4 < s.length
  ·rw [if_pos ⟨h4, hp⟩]
  ·obtain ⟨t, ht⟩ := List.isPrefixOf_iff_prefix.1 hp
   have hl := congrArg List.length ht
   rw [List.length_append] at hl
   have ht0 : t = [] := List.eq_nil_of_length_eq_zero (by simp only [List.length_cons, List.length_nil] at hl; omega)
   rw [ht0, List.append_nil] at ht
   rw [if_neg (fun q => h4 q.1), if_neg (fun q => absurd q.1 (by omega)), ← h1, ← h3, ← ht]
   decide +kernel
 ·rw [if_neg hp, if_neg (show ¬(4 < s.length ∧ [108, 97, 115, 116].isPrefixOf s = true) from fun q => hp q.2)]
  by_cases hsg : (s.drop 3).take 2 = [62, 61] ∨ (s.drop 3).take 2 = [60, 61]
  ·rw [if_pos hsg]
   by_cases h5 : 5 < s.length
   ·rw [if_pos ⟨h5, hsg⟩]
   ·rw [if_neg (fun q => h5 q.1), ← h2, ← h3]
    have hm : ∃ c ∈ s, digC c = false := by
     rcases hsg with q | q
     ·exact ⟨62, List.mem_of_mem_drop (List.mem_of_mem_take (by rw [q]; simp)), by decide⟩
     ·exact ⟨60, List.mem_of_mem_drop (List.mem_of_mem_take (by rw [q]; simp)), by decide⟩
    obtain ⟨c, hc, hd⟩ := hm
    have hl : (s.drop 5) = [] := List.drop_eq_nil_of_le (by omega)
    have hd0 := day_no hc hd
    have hdn : dayM [] = (0, 3) := by decide +kernel
    rw [hl, hdn, hd0]
    by_cases hw : (findM' wdayL (s.take 3)).2 ≠ 0
    ·rw [if_pos hw]; rfl
    ·rw [if_neg hw]; rfl
  ·rw [if_neg hsg, if_neg (fun q => hsg q.2)]
theorem pre_ext {s : ByteArray} : ((s.extract 0 4).toList == [108, 97, 115, 116]) = [108, 97, 115, 116].isPrefixOf (bsO s) := by
 rw [Lib.toList_data]
 show (bsO (s.extract 0 4) == [108, 97, 115, 116]) = _
 rw [bs_ext, Bool.eq_iff_iff, beq_iff_eq, List.isPrefixOf_iff_prefix, List.drop_zero]
 constructor
 ·intro q
  exact ⟨(bsO s).drop 4, by rw [← q, List.take_append_drop]⟩
 ·rintro ⟨t, ht⟩
  rw [← ht]
  rfl
theorem sign_ext {s : ByteArray} (a : UInt8) : ((s.extract 3 5).toList == [a, 61]) = decide ((List.drop 3 (bsO s)).take 2 = [a, 61]) := by
 rw [Lib.toList_data]
 show (bsO (s.extract 3 5) == [a, 61]) = _
 rw [bs_ext, List.drop_take, Bool.eq_iff_iff, beq_iff_eq, decide_eq_true_eq]
theorem sign_at {s : ByteArray} {a : UInt8} {h : 3 < s.size} (hs : (List.drop 3 (bsO s)).take 2 = [a, 61]) : ((s[3].toNat : Int) == 60) = (a == 60) := by
 have h0 : ((List.drop 3 (bsO s)).take 2)[0]? = some a := by rw [hs]; rfl
 rw [List.getElem?_take_of_lt (by decide), List.getElem?_drop] at h0
 have h1 : (bsO s)[3]? = some s[3] := by rw [List.getElem?_eq_getElem (by rw [bs_len]; exact h), bs_at s 3 h]
 rw [show 3 + 0 = 3 from rfl, h1] at h0
 injection h0 with h0
 rw [h0, Bool.eq_iff_iff]
 simp only [beq_iff_eq]
 constructor
 ·intro q
  exact UInt8.toNat_inj.1 (show a.toNat = (60 : UInt8).toNat by show a.toNat = 60; omega)
 ·rintro rfl
  rfl

set_option maxRecDepth 100000 in
set_option maxHeartbeats 8000000 in
theorem on19_any (s : ByteArray) (hs : s.size < 4294967281) (w : World) :
  Calls Tryz.prog 29 #[.string s] w fun e w' => OnA (onM (bsO s)) e ∧ Below w.heap.size w w' := by
 have HS := Lib.hid hs
 obtain ⟨b2, hb2⟩ : ∃ b, w.heap.size = b := ⟨_, rfl⟩
 obtain ⟨X, hX⟩ : ∃ X, w.alloc (.cells #[.int .i64 0, .int .i64 0, .int .i64 0] 39) = X := ⟨_, rfl⟩
 have HX2 : Hid (Blk X b2 #[.int .i64 0, .int .i64 0, .int .i64 0] 39) := Lib.hid (by rw [← hX, ← hb2]; exact Blk.new _ _ _)
 have HBX : Hid (Below w.heap.size w X) := Lib.hid (by rw [← hX]; exact below_box)
 have HB2S : Hid (w.heap.size ≤ b2) := Lib.hid (Nat.le_of_eq hb2)
 have HRF := Lib.hid (on_ref (bsO s))
 rw [bs_len] at HRF
 go_enter Tryz.func29, Tryz.ntmps29
 go_upto_region 1 with fail
 try rw [hX]
 try rw [hb2]
 clear hX hb2
 by_cases hla : 4 < s.size ∧ [108, 97, 115, 116].isPrefixOf (bsO s) = true
 ·obtain ⟨h4, hpf⟩ := hla
  have hpe : ((s.extract 0 4).toList == [108, 97, 115, 116]) = true := pre_ext.trans hpf
  obtain ⟨r, hr⟩ : ∃ r, findM' wdayL (bsO (s.extract 4 s.size)) = r := ⟨_, rfl⟩
  have hdr : (bsO s).drop 4 = bsO (s.extract 4 s.size) := by rw [bs_ext, List.take_of_length_le (by rw [bs_len]; exact Nat.le_refl _)]
  have HAN : Hid (onM (bsO s) = if r.2 ≠ 0 then (on0, 3) else (⟨2, r.1, 0⟩, 0)) := Lib.hid (by rw [HRF.out, if_pos ⟨h4, hpf⟩, hdr, hr])
  have HFI : Hid (∀ w' v, RdSt w' v wdayL → Calls Tryz.prog 92 #[v, .string (s.extract 4 s.size)] w' fun e w'' => e = .returned (.tuple #[.int .i64 r.1, .int .i64 r.2]) ∧ w'' = w') := Lib.hid (by rw [← hr]; exact fun w' v hv => find18_any v wdayL _ w' hv (by decide))
  clear hr hdr hpf HRF
  have h4' : (4 : Int) < (s.size : Int) := by omega
  obtain ⟨rn, re⟩ := r
  go_upto_region 2 with fail
  go_cut [4, 5] from 4 to 26 (fun u4 u5 wx => u4 = .int .i64 rn ∧ u5 = .int .i64 re ∧ Hid (Below X.heap.size X wx))
  case first =>
   go_region_with (first | (go_at_call 93; refine (weekdays18_any _).mono ?_; rintro e w' ⟨⟨v, rfl, hv⟩, hb⟩; have HVR := Lib.hid hv; obtain ⟨av, cv, rfl⟩ := hv.form; clear hv) | (go_at_call 92; refine (HFI.out _ _ HVR.out).mono ?_; rintro e w'' ⟨rfl, hw⟩; rw [hw]; clear hw; try (obtain ⟨W1, hW1⟩ : ∃ W, w' = W := ⟨_, rfl⟩; rw [hW1] at hb ⊢; clear hW1)) | fail)
   all_goals go_wp2_with fail
   all_goals go_meet
   all_goals exact ⟨rfl, rfl, keepBelow ((Below.refl _ _).drew) hb⟩
  case rest =>
  obtain ⟨rfl, rfl, HBC⟩ := hcut
  generalize wc = W1 at *
  have hb := HBC.out
  have HB2 := Lib.hid (HX2.out.below hb); have HBW := Lib.hid (keepBelow HBX.out hb); have c0 := HB2.out.cell (j := 0) rfl; have c1 := HB2.out.cell (j := 1) rfl; have c2 := HB2.out.cell (j := 2) rfl; have f0 := HB2.out.frz 0; have f1 := HB2.out.frz 1; have f2 := HB2.out.frz 2
  by_cases hre : re = 0
  ·have g0 : (re != 0) = false := by simpa using hre
   have HAN2 : Hid (onM (bsO s) = (⟨2, rn, 0⟩, 0)) := Lib.hid (by rw [HAN.out, if_neg (by simpa using hre)])
   clear hre HAN
   go_wp2_with fail
   obtain ⟨r0, r1, r2, HBF, _⟩ := fin3 HBW.out HB2S.out HB2.out (.int .i64 2) (.int .i64 rn) (.int .i64 0)
   refine bodyPost_ret (v := .tuple #[.agg #[.int .i64 2, .int .i64 rn, .int .i64 0], .int .i64 0]) (by simp [results, Tryz.results29, go_sem, r0, r1, r2]) rfl ?_
   exact ⟨by rw [HAN2.out]; rfl, HBF⟩
  ·have g0 : (re != 0) = true := by simpa using hre
   have HAN2 : Hid (onM (bsO s) = (on0, 3)) := Lib.hid (by rw [HAN.out, if_pos (by simpa using hre)])
   clear hre HAN
   go_wp2_with fail
   obtain ⟨r0, r1, r2, HBF, _⟩ := fin3 HBW.out HB2S.out HB2.out (.int .i64 0) (.int .i64 0) (.int .i64 0)
   refine bodyPost_ret (v := .tuple #[.agg #[.int .i64 0, .int .i64 0, .int .i64 0], .int .i64 3]) (by simp [results, Tryz.results29, go_sem, r0, r1, r2]) rfl ?_
   exact ⟨by rw [HAN2.out]; rfl, HBF⟩
 ·have HR2 : Hid (onM (bsO s) = _) := Lib.hid (HRF.out.trans (if_neg hla))
  clear HRF
  by_cases h4 : 4 < s.size
  ·have hpf : [108, 97, 115, 116].isPrefixOf (bsO s) = false := by rw [← Bool.not_eq_true]; exact fun q => hla ⟨h4, q⟩
   have hpe : ((s.extract 0 4).toList == [108, 97, 115, 116]) = false := pre_ext.trans hpf
   have h4' : (4 : Int) < (s.size : Int) := by omega
   go_upto_region 6 with fail
   go_upto_region 7 with fail
   obtain ⟨b8, hb8⟩ : ∃ b, X.heap.size = b := ⟨_, rfl⟩
   obtain ⟨Y, hY⟩ : ∃ Y, X.alloc (.cells #[.int .i64 1, .int .i64 0, .int .i64 0] 39) = Y := ⟨_, rfl⟩
   have HY8 : Hid (Blk Y b8 #[.int .i64 1, .int .i64 0, .int .i64 0] 39) := Lib.hid (by rw [← hY, ← hb8]; exact Blk.new _ _ _)
   have HXY : Hid (Below X.heap.size X Y) := Lib.hid (by rw [← hY]; exact below_box)
   have HBY := Lib.hid (keepBelow HBX.out HXY.out)
   have HY2 := Lib.hid (HX2.out.below HXY.out)
   have HNE : Hid (b2 ≠ b8) := Lib.hid (by have := HX2.out.lt; omega)
   have HB8S : Hid (w.heap.size ≤ b8) := Lib.hid (by rw [← hb8]; exact HBX.out.size)
   try rw [hY]
   try rw [hb8]
   clear hY hb8
   by_cases h5 : 5 < s.size
   ·have h5' : (5 : Int) < (s.size : Int) := by omega
    by_cases hsg : (List.drop 3 (bsO s)).take 2 = [62, 61]
    ·clear hla hpe hpf
     have hg : ((s.extract 3 5).toList == [62, 61]) = true := by rw [sign_ext]; exact decide_eq_true hsg
     have hl : ((s.extract 3 5).toList == [60, 61]) = false := by rw [sign_ext]; exact decide_eq_false (by rw [hsg]; decide)
     have h3c : ((s[3].toNat : Int) == 60) = false := sign_at hsg
     obtain ⟨r, hr⟩ : ∃ r, findM' wdayL (bsO (s.extract 0 3)) = r := ⟨_, rfl⟩
     obtain ⟨B, hB⟩ : ∃ B, s.extract 5 s.size = B := ⟨_, rfl⟩
     have htk : (bsO s).take 3 = bsO (s.extract 0 3) := by rw [bs_ext, List.drop_zero]
     have hdr : (bsO s).drop 5 = bsO B := by rw [← hB, bs_ext, List.take_of_length_le (by rw [bs_len]; exact Nat.le_refl _)]
     have HTS : Hid (B.size < 4294967281) := Lib.hid (by have h1 := congrArg List.length hdr; rw [List.length_drop, bs_len, bs_len] at h1; have := HS.out; omega)
     have HAN : Hid (onM (bsO s) = if r.2 ≠ 0 then (on0, 3) else if (dayM (bsO B)).2 ≠ 0 then (on0, (dayM (bsO B)).2) else (⟨3, r.1, (dayM (bsO B)).1⟩, 0)) := Lib.hid (by rw [HR2.out, if_pos ⟨h5, .inl hsg⟩, htk, hdr, hr, if_pos hsg])
     have HFI : Hid (∀ w' v, RdSt w' v wdayL → Calls Tryz.prog 92 #[v, .string (s.extract 0 3)] w' fun e w'' => e = .returned (.tuple #[.int .i64 r.1, .int .i64 r.2]) ∧ w'' = w') := Lib.hid (by rw [← hr]; exact fun w' v hv => find18_any v wdayL _ w' hv (by decide))
     clear hr hdr htk hsg
     have h5' : (5 : Int) < (s.size : Int) := by omega
     obtain ⟨rn, re⟩ := r
     go_upto_region 8 with fail
     go_cut [8, 9] from 8 to 53 (fun u4 u5 wx => u4 = .int .i64 rn ∧ u5 = .int .i64 re ∧ Hid (Below Y.heap.size Y wx))
     case first =>
      go_region_with (first | (go_at_call 93; refine (weekdays18_any _).mono ?_; rintro e w' ⟨⟨v, rfl, hv⟩, hb⟩; have HVR := Lib.hid hv; obtain ⟨av, cv, rfl⟩ := hv.form; clear hv) | (go_at_call 92; refine (HFI.out _ _ HVR.out).mono ?_; rintro e w'' ⟨rfl, hw⟩; rw [hw]; clear hw; try (obtain ⟨W1, hW1⟩ : ∃ W, w' = W := ⟨_, rfl⟩; rw [hW1] at hb ⊢; clear hW1)) | fail)
      all_goals go_wp2_with fail
      all_goals go_meet
      all_goals exact ⟨rfl, rfl, keepBelow ((Below.refl _ _).drew) hb⟩
     case rest =>
     obtain ⟨rfl, rfl, HBC⟩ := hcut
     generalize wc = W1 at *
     have hb := HBC.out
     have HB2 := Lib.hid (HY2.out.below hb); have HBW := Lib.hid (keepBelow HBY.out hb); have c0 := HB2.out.cell (j := 0) rfl; have c1 := HB2.out.cell (j := 1) rfl; have c2 := HB2.out.cell (j := 2) rfl; have f0 := HB2.out.frz 0; have f1 := HB2.out.frz 1; have f2 := HB2.out.frz 2
     by_cases hre : re = 0
     ·have g0 : (re != 0) = false := by simpa using hre
      have HT : Hid (onM (bsO s) = if (dayM (bsO B)).2 ≠ 0 then (on0, (dayM (bsO B)).2) else (⟨3, rn, (dayM (bsO B)).1⟩, 0)) := Lib.hid (by rw [HAN.out, if_neg (by simpa using hre)])
      clear hre HAN HFI c0 c1 c2 f0 f1 f2
      have HB8 := Lib.hid (HY8.out.below hb)
      have x0 := HB8.out.cell (j := 0) rfl; have x1 := HB8.out.cell (j := 1) rfl
      have y0 := HB8.out.frz 0; have y1 := HB8.out.frz 1
      have hsl : ∀ W : World, (Instr.slice 9 (.string s) (some (.int .i64 5)) none none).run Tryz.prog W = .ok (.string B) W := fun W => by
       have := run_slice_string_l (P := Tryz.prog) (w := W) (t := 9) (s := s) Tryz.underlying9 .i64 5 (by omega) (by omega)
       rw [← hB]
       exact this
      go_upto_region 11 with fail
      go_cut [7] from 8 to 61 (fun u7 wx => u7 = .string B ∧ Hid (Blk wx b8 #[.int .i64 3, .int .i64 rn, .int .i64 0] 39) ∧ Hid (Blk wx b2 #[.int .i64 0, .int .i64 0, .int .i64 0] 39) ∧ Hid (Below w.heap.size w wx))
      case first =>
       have z0 : W1.drew.cell? ⟨b8, 0, none⟩ = some (.int .i64 1) := x0
       have z1 : W1.drew.cell? ⟨b8, 1, none⟩ = some (.int .i64 0) := x1
       have z2 : W1.drew.frozen? ⟨b8, 0, none⟩ = false := y0
       have z3 : W1.drew.frozen? ⟨b8, 1, none⟩ = false := y1
       have HQ8 : Hid (Blk ((W1.drew.setCell ⟨b8, 0, none⟩ (.int .i64 3)).setCell ⟨b8, 1, none⟩ (.int .i64 rn)) b8 #[.int .i64 3, .int .i64 rn, .int .i64 0] 39) := Lib.hid ((Blk.set (w := W1.drew) (j := 0) HB8.out _).set (j := 1) _)
       have HQ2 : Hid (Blk ((W1.drew.setCell ⟨b8, 0, none⟩ (.int .i64 3)).setCell ⟨b8, 1, none⟩ (.int .i64 rn)) b2 #[.int .i64 0, .int .i64 0, .int .i64 0] 39) := Lib.hid ((Blk.far (w := W1.drew) (j := 0) HB2.out HNE.out _).far (j := 1) HNE.out _)
       have HQW : Hid (Below w.heap.size w ((W1.drew.setCell ⟨b8, 0, none⟩ (.int .i64 3)).setCell ⟨b8, 1, none⟩ (.int .i64 rn))) := Lib.hid ((HBW.out.drew.setCell (p := ⟨b8, 0, none⟩) HB8S.out _).setCell (p := ⟨b8, 1, none⟩) HB8S.out _)
       go_region
       all_goals go_wp2_with fail
       all_goals go_meet
       all_goals exact ⟨rfl, HQ8.out, HQ2.out, HQW.out⟩
      case rest =>
      obtain ⟨rfl, HB8, HB2, HBW⟩ := hcut
      generalize wc = W at *
      clear x0 x1 y0 y1 hb HBC hsl
      go_upto_region 14 with fail
      clear hB
      obtain ⟨dm, hdm⟩ : ∃ q, dayM (bsO B) = q := ⟨_, rfl⟩
      have HNU : Hid (∀ w', Calls Tryz.prog 94 #[.string B] w' fun e w'' => e = .returned (.tuple #[.int .i64 dm.1, .int .i64 dm.2]) ∧ w'' = w') := Lib.hid (by rw [← hdm]; exact fun w' => dayed_any B HTS.out w')
      rw [hdm] at HT
      clear hdm
      obtain ⟨dn, de⟩ := dm
      have c0 := HB2.out.cell (j := 0) rfl; have c1 := HB2.out.cell (j := 1) rfl; have c2 := HB2.out.cell (j := 2) rfl
      have f0 := HB2.out.frz 0; have f1 := HB2.out.frz 1; have f2 := HB2.out.frz 2
      by_cases hde : de = 0
      ·have g0 : (de != 0) = false := by simpa using hde
       have HAN : Hid (onM (bsO s) = (⟨3, rn, dn⟩, 0)) := Lib.hid (by rw [HT.out, if_neg (by simpa using hde)])
       clear hde
       have x0 := HB8.out.cell (j := 0) rfl; have x1 := HB8.out.cell (j := 1) rfl; have x2 := HB8.out.cell (j := 2) rfl
       have y2 := HB8.out.frz 2
       have hne : b2 ≠ b8 := HNE.out
       go_upto_region 17 with (first | (go_at_call 94; refine (HNU.out _).mono ?_; rintro e w' ⟨rfl, hw⟩; rw [hw]; clear hw) | fail)
       go_upto_region 18 with fail
       obtain ⟨V, hV⟩ : ∃ V, W.setCell ⟨b8, 2, none⟩ (.int .i64 dn) = V := ⟨_, rfl⟩
       have HV8 : Hid (Blk V b8 #[.int .i64 3, .int .i64 rn, .int .i64 dn] 39) := Lib.hid (by rw [← hV]; exact HB8.out.set (j := 2) _)
       have HV2 : Hid (Blk V b2 #[.int .i64 0, .int .i64 0, .int .i64 0] 39) := Lib.hid (by rw [← hV]; exact HB2.out.far HNE.out _)
       have HVW : Hid (Below w.heap.size w V) := Lib.hid (by rw [← hV]; exact HBW.out.setCell (p := ⟨b8, 2, none⟩) HB8S.out _)
       try rw [hV]
       clear hV c0 c1 c2 f0 f1 f2 x0 x1 x2 y2
       have c0 := HV2.out.cell (j := 0) rfl; have c1 := HV2.out.cell (j := 1) rfl; have c2 := HV2.out.cell (j := 2) rfl
       have f0 := HV2.out.frz 0; have f1 := HV2.out.frz 1; have f2 := HV2.out.frz 2
       have x0 := HV8.out.cell (j := 0) rfl; have x1 := HV8.out.cell (j := 1) rfl; have x2 := HV8.out.cell (j := 2) rfl
       go_wp2_with fail
       obtain ⟨r0, r1, r2, HBF, _⟩ := fin3 HVW.out HB2S.out HV2.out (.int .i64 3) (.int .i64 rn) (.int .i64 dn)
       refine bodyPost_ret (v := .tuple #[.agg #[.int .i64 3, .int .i64 rn, .int .i64 dn], .int .i64 0]) (by simp [results, Tryz.results29, go_sem, r0, r1, r2]) rfl ?_
       exact ⟨by rw [HAN.out]; rfl, HBF⟩
      ·have g0 : (de != 0) = true := by simpa using hde
       have HAN : Hid (onM (bsO s) = (on0, de)) := Lib.hid (by rw [HT.out, if_pos (by simpa using hde)])
       clear hde
       go_wp2_with (first | (go_at_call 94; refine (HNU.out _).mono ?_; rintro e w' ⟨rfl, hw⟩; rw [hw]; clear hw) | fail)
       obtain ⟨r0, r1, r2, HBF, _⟩ := fin3 HBW.out HB2S.out HB2.out (.int .i64 0) (.int .i64 0) (.int .i64 0)
       refine bodyPost_ret (v := .tuple #[.agg #[.int .i64 0, .int .i64 0, .int .i64 0], .int .i64 de]) (by simp [results, Tryz.results29, go_sem, r0, r1, r2]) rfl ?_
       exact ⟨by rw [HAN.out]; rfl, HBF⟩
     ·have g0 : (re != 0) = true := by simpa using hre
      have HAN2 : Hid (onM (bsO s) = (on0, 3)) := Lib.hid (by rw [HAN.out, if_pos (by simpa using hre)])
      clear hre HAN
      go_wp2_with fail
      obtain ⟨r0, r1, r2, HBF, _⟩ := fin3 HBW.out HB2S.out HB2.out (.int .i64 0) (.int .i64 0) (.int .i64 0)
      refine bodyPost_ret (v := .tuple #[.agg #[.int .i64 0, .int .i64 0, .int .i64 0], .int .i64 3]) (by simp [results, Tryz.results29, go_sem, r0, r1, r2]) rfl ?_
      exact ⟨by rw [HAN2.out]; rfl, HBF⟩
    by_cases hsg2 : (List.drop 3 (bsO s)).take 2 = [60, 61]
    ·clear hla hpe hpf hsg
     have hsg := hsg2
     clear hsg2
     have hg : ((s.extract 3 5).toList == [62, 61]) = false := by rw [sign_ext]; exact decide_eq_false (by rw [hsg]; decide)
     have hl : ((s.extract 3 5).toList == [60, 61]) = true := by rw [sign_ext]; exact decide_eq_true hsg
     have h3c : ((s[3].toNat : Int) == 60) = true := sign_at hsg
     obtain ⟨r, hr⟩ : ∃ r, findM' wdayL (bsO (s.extract 0 3)) = r := ⟨_, rfl⟩
     obtain ⟨B, hB⟩ : ∃ B, s.extract 5 s.size = B := ⟨_, rfl⟩
     have htk : (bsO s).take 3 = bsO (s.extract 0 3) := by rw [bs_ext, List.drop_zero]
     have hdr : (bsO s).drop 5 = bsO B := by rw [← hB, bs_ext, List.take_of_length_le (by rw [bs_len]; exact Nat.le_refl _)]
     have HTS : Hid (B.size < 4294967281) := Lib.hid (by have h1 := congrArg List.length hdr; rw [List.length_drop, bs_len, bs_len] at h1; have := HS.out; omega)
     have HAN : Hid (onM (bsO s) = if r.2 ≠ 0 then (on0, 3) else if (dayM (bsO B)).2 ≠ 0 then (on0, (dayM (bsO B)).2) else (⟨4, r.1, (dayM (bsO B)).1⟩, 0)) := Lib.hid (by rw [HR2.out, if_pos ⟨h5, .inr hsg⟩, htk, hdr, hr, hsg]; rfl)
     have HFI : Hid (∀ w' v, RdSt w' v wdayL → Calls Tryz.prog 92 #[v, .string (s.extract 0 3)] w' fun e w'' => e = .returned (.tuple #[.int .i64 r.1, .int .i64 r.2]) ∧ w'' = w') := Lib.hid (by rw [← hr]; exact fun w' v hv => find18_any v wdayL _ w' hv (by decide))
     clear hr hdr htk hsg
     have h5' : (5 : Int) < (s.size : Int) := by omega
     obtain ⟨rn, re⟩ := r
     go_upto_region 8 with fail
     go_cut [8, 9] from 8 to 53 (fun u4 u5 wx => u4 = .int .i64 rn ∧ u5 = .int .i64 re ∧ Hid (Below Y.heap.size Y wx))
     case first =>
      go_region_with (first | (go_at_call 93; refine (weekdays18_any _).mono ?_; rintro e w' ⟨⟨v, rfl, hv⟩, hb⟩; have HVR := Lib.hid hv; obtain ⟨av, cv, rfl⟩ := hv.form; clear hv) | (go_at_call 92; refine (HFI.out _ _ HVR.out).mono ?_; rintro e w'' ⟨rfl, hw⟩; rw [hw]; clear hw; try (obtain ⟨W1, hW1⟩ : ∃ W, w' = W := ⟨_, rfl⟩; rw [hW1] at hb ⊢; clear hW1)) | fail)
      all_goals go_wp2_with fail
      all_goals go_meet
      all_goals exact ⟨rfl, rfl, keepBelow ((Below.refl _ _).drew) hb⟩
     case rest =>
     obtain ⟨rfl, rfl, HBC⟩ := hcut
     generalize wc = W1 at *
     have hb := HBC.out
     have HB2 := Lib.hid (HY2.out.below hb); have HBW := Lib.hid (keepBelow HBY.out hb); have c0 := HB2.out.cell (j := 0) rfl; have c1 := HB2.out.cell (j := 1) rfl; have c2 := HB2.out.cell (j := 2) rfl; have f0 := HB2.out.frz 0; have f1 := HB2.out.frz 1; have f2 := HB2.out.frz 2
     by_cases hre : re = 0
     ·have g0 : (re != 0) = false := by simpa using hre
      have HT : Hid (onM (bsO s) = if (dayM (bsO B)).2 ≠ 0 then (on0, (dayM (bsO B)).2) else (⟨4, rn, (dayM (bsO B)).1⟩, 0)) := Lib.hid (by rw [HAN.out, if_neg (by simpa using hre)])
      clear hre HAN HFI c0 c1 c2 f0 f1 f2
      have HB8 := Lib.hid (HY8.out.below hb)
      have x0 := HB8.out.cell (j := 0) rfl; have x1 := HB8.out.cell (j := 1) rfl
      have y0 := HB8.out.frz 0; have y1 := HB8.out.frz 1
      have hsl : ∀ W : World, (Instr.slice 9 (.string s) (some (.int .i64 5)) none none).run Tryz.prog W = .ok (.string B) W := fun W => by
       have := run_slice_string_l (P := Tryz.prog) (w := W) (t := 9) (s := s) Tryz.underlying9 .i64 5 (by omega) (by omega)
       rw [← hB]
       exact this
      go_upto_region 11 with fail
      go_cut [7] from 8 to 61 (fun u7 wx => u7 = .string B ∧ Hid (Blk wx b8 #[.int .i64 3, .int .i64 rn, .int .i64 0] 39) ∧ Hid (Blk wx b2 #[.int .i64 0, .int .i64 0, .int .i64 0] 39) ∧ Hid (Below w.heap.size w wx))
      case first =>
       have z0 : W1.drew.cell? ⟨b8, 0, none⟩ = some (.int .i64 1) := x0
       have z1 : W1.drew.cell? ⟨b8, 1, none⟩ = some (.int .i64 0) := x1
       have z2 : W1.drew.frozen? ⟨b8, 0, none⟩ = false := y0
       have z3 : W1.drew.frozen? ⟨b8, 1, none⟩ = false := y1
       have HQ8 : Hid (Blk ((W1.drew.setCell ⟨b8, 0, none⟩ (.int .i64 3)).setCell ⟨b8, 1, none⟩ (.int .i64 rn)) b8 #[.int .i64 3, .int .i64 rn, .int .i64 0] 39) := Lib.hid ((Blk.set (w := W1.drew) (j := 0) HB8.out _).set (j := 1) _)
       have HQ2 : Hid (Blk ((W1.drew.setCell ⟨b8, 0, none⟩ (.int .i64 3)).setCell ⟨b8, 1, none⟩ (.int .i64 rn)) b2 #[.int .i64 0, .int .i64 0, .int .i64 0] 39) := Lib.hid ((Blk.far (w := W1.drew) (j := 0) HB2.out HNE.out _).far (j := 1) HNE.out _)
       have HQW : Hid (Below w.heap.size w ((W1.drew.setCell ⟨b8, 0, none⟩ (.int .i64 3)).setCell ⟨b8, 1, none⟩ (.int .i64 rn))) := Lib.hid ((HBW.out.drew.setCell (p := ⟨b8, 0, none⟩) HB8S.out _).setCell (p := ⟨b8, 1, none⟩) HB8S.out _)
       go_region
       all_goals go_wp2_with fail
       all_goals go_meet
       all_goals exact ⟨rfl, HQ8.out, HQ2.out, HQW.out⟩
      case rest =>
      obtain ⟨rfl, HB8, HB2, HBW⟩ := hcut
      generalize wc = W2 at *
      clear x0 x1 y0 y1 hb HBC hsl
      have x0 := HB8.out.cell (j := 0) rfl
      have y0 := HB8.out.frz 0
      obtain ⟨W, hW⟩ : ∃ W, W2.setCell ⟨b8, 0, none⟩ (.int .i64 4) = W := ⟨_, rfl⟩
      have HB8 : Hid (Blk W b8 #[.int .i64 4, .int .i64 rn, .int .i64 0] 39) := Lib.hid (by rw [← hW]; exact HB8.out.set (j := 0) _)
      have HB2 : Hid (Blk W b2 #[.int .i64 0, .int .i64 0, .int .i64 0] 39) := Lib.hid (by rw [← hW]; exact HB2.out.far HNE.out _)
      have HBW : Hid (Below w.heap.size w W) := Lib.hid (by rw [← hW]; exact HBW.out.setCell (p := ⟨b8, 0, none⟩) HB8S.out _)
      go_upto_region 14 with fail
      try rw [hW]
      clear hW x0 y0
      clear hB
      obtain ⟨dm, hdm⟩ : ∃ q, dayM (bsO B) = q := ⟨_, rfl⟩
      have HNU : Hid (∀ w', Calls Tryz.prog 94 #[.string B] w' fun e w'' => e = .returned (.tuple #[.int .i64 dm.1, .int .i64 dm.2]) ∧ w'' = w') := Lib.hid (by rw [← hdm]; exact fun w' => dayed_any B HTS.out w')
      rw [hdm] at HT
      clear hdm
      obtain ⟨dn, de⟩ := dm
      have c0 := HB2.out.cell (j := 0) rfl; have c1 := HB2.out.cell (j := 1) rfl; have c2 := HB2.out.cell (j := 2) rfl
      have f0 := HB2.out.frz 0; have f1 := HB2.out.frz 1; have f2 := HB2.out.frz 2
      by_cases hde : de = 0
      ·have g0 : (de != 0) = false := by simpa using hde
       have HAN : Hid (onM (bsO s) = (⟨4, rn, dn⟩, 0)) := Lib.hid (by rw [HT.out, if_neg (by simpa using hde)])
       clear hde
       have x0 := HB8.out.cell (j := 0) rfl; have x1 := HB8.out.cell (j := 1) rfl; have x2 := HB8.out.cell (j := 2) rfl
       have y2 := HB8.out.frz 2
       have hne : b2 ≠ b8 := HNE.out
       go_upto_region 17 with (first | (go_at_call 94; refine (HNU.out _).mono ?_; rintro e w' ⟨rfl, hw⟩; rw [hw]; clear hw) | fail)
       go_upto_region 18 with fail
       obtain ⟨V, hV⟩ : ∃ V, W.setCell ⟨b8, 2, none⟩ (.int .i64 dn) = V := ⟨_, rfl⟩
       have HV8 : Hid (Blk V b8 #[.int .i64 4, .int .i64 rn, .int .i64 dn] 39) := Lib.hid (by rw [← hV]; exact HB8.out.set (j := 2) _)
       have HV2 : Hid (Blk V b2 #[.int .i64 0, .int .i64 0, .int .i64 0] 39) := Lib.hid (by rw [← hV]; exact HB2.out.far HNE.out _)
       have HVW : Hid (Below w.heap.size w V) := Lib.hid (by rw [← hV]; exact HBW.out.setCell (p := ⟨b8, 2, none⟩) HB8S.out _)
       try rw [hV]
       clear hV c0 c1 c2 f0 f1 f2 x0 x1 x2 y2
       have c0 := HV2.out.cell (j := 0) rfl; have c1 := HV2.out.cell (j := 1) rfl; have c2 := HV2.out.cell (j := 2) rfl
       have f0 := HV2.out.frz 0; have f1 := HV2.out.frz 1; have f2 := HV2.out.frz 2
       have x0 := HV8.out.cell (j := 0) rfl; have x1 := HV8.out.cell (j := 1) rfl; have x2 := HV8.out.cell (j := 2) rfl
       go_wp2_with fail
       obtain ⟨r0, r1, r2, HBF, _⟩ := fin3 HVW.out HB2S.out HV2.out (.int .i64 4) (.int .i64 rn) (.int .i64 dn)
       refine bodyPost_ret (v := .tuple #[.agg #[.int .i64 4, .int .i64 rn, .int .i64 dn], .int .i64 0]) (by simp [results, Tryz.results29, go_sem, r0, r1, r2]) rfl ?_
       exact ⟨by rw [HAN.out]; rfl, HBF⟩
      ·have g0 : (de != 0) = true := by simpa using hde
       have HAN : Hid (onM (bsO s) = (on0, de)) := Lib.hid (by rw [HT.out, if_pos (by simpa using hde)])
       clear hde
       go_wp2_with (first | (go_at_call 94; refine (HNU.out _).mono ?_; rintro e w' ⟨rfl, hw⟩; rw [hw]; clear hw) | fail)
       obtain ⟨r0, r1, r2, HBF, _⟩ := fin3 HBW.out HB2S.out HB2.out (.int .i64 0) (.int .i64 0) (.int .i64 0)
       refine bodyPost_ret (v := .tuple #[.agg #[.int .i64 0, .int .i64 0, .int .i64 0], .int .i64 de]) (by simp [results, Tryz.results29, go_sem, r0, r1, r2]) rfl ?_
       exact ⟨by rw [HAN.out]; rfl, HBF⟩
     ·have g0 : (re != 0) = true := by simpa using hre
      have HAN2 : Hid (onM (bsO s) = (on0, 3)) := Lib.hid (by rw [HAN.out, if_pos (by simpa using hre)])
      clear hre HAN
      go_wp2_with fail
      obtain ⟨r0, r1, r2, HBF, _⟩ := fin3 HBW.out HB2S.out HB2.out (.int .i64 0) (.int .i64 0) (.int .i64 0)
      refine bodyPost_ret (v := .tuple #[.agg #[.int .i64 0, .int .i64 0, .int .i64 0], .int .i64 3]) (by simp [results, Tryz.results29, go_sem, r0, r1, r2]) rfl ?_
      exact ⟨by rw [HAN2.out]; rfl, HBF⟩
    have hg : ((s.extract 3 5).toList == [62, 61]) = false := by rw [sign_ext]; exact decide_eq_false hsg
    have hl : ((s.extract 3 5).toList == [60, 61]) = false := by rw [sign_ext]; exact decide_eq_false hsg2
    have HT : Hid (onM (bsO s) = if (dayM (bsO s)).2 ≠ 0 then (on0, (dayM (bsO s)).2) else (⟨1, 0, (dayM (bsO s)).1⟩, 0)) := Lib.hid (HR2.out.trans (if_neg (fun q => q.2.elim hsg hsg2)))
    have HTS := HS
    have HB2 := HY2
    have HB8 := HY8
    have HBW := HBY
    generalize Y = W at *
    clear hsg hsg2 hla hpf
    obtain ⟨dm, hdm⟩ : ∃ q, dayM (bsO s) = q := ⟨_, rfl⟩
    have HNU : Hid (∀ w', Calls Tryz.prog 94 #[.string s] w' fun e w'' => e = .returned (.tuple #[.int .i64 dm.1, .int .i64 dm.2]) ∧ w'' = w') := Lib.hid (by rw [← hdm]; exact fun w' => dayed_any s HTS.out w')
    rw [hdm] at HT
    clear hdm
    obtain ⟨dn, de⟩ := dm
    have c0 := HB2.out.cell (j := 0) rfl; have c1 := HB2.out.cell (j := 1) rfl; have c2 := HB2.out.cell (j := 2) rfl
    have f0 := HB2.out.frz 0; have f1 := HB2.out.frz 1; have f2 := HB2.out.frz 2
    by_cases hde : de = 0
    ·have g0 : (de != 0) = false := by simpa using hde
     have HAN : Hid (onM (bsO s) = (⟨1, 0, dn⟩, 0)) := Lib.hid (by rw [HT.out, if_neg (by simpa using hde)])
     clear hde
     have x0 := HB8.out.cell (j := 0) rfl; have x1 := HB8.out.cell (j := 1) rfl; have x2 := HB8.out.cell (j := 2) rfl
     have y2 := HB8.out.frz 2
     have hne : b2 ≠ b8 := HNE.out
     go_upto_region 17 with (first | (go_at_call 94; refine (HNU.out _).mono ?_; rintro e w' ⟨rfl, hw⟩; rw [hw]; clear hw) | fail)
     go_upto_region 18 with fail
     obtain ⟨V, hV⟩ : ∃ V, W.setCell ⟨b8, 2, none⟩ (.int .i64 dn) = V := ⟨_, rfl⟩
     have HV8 : Hid (Blk V b8 #[.int .i64 1, .int .i64 0, .int .i64 dn] 39) := Lib.hid (by rw [← hV]; exact HB8.out.set (j := 2) _)
     have HV2 : Hid (Blk V b2 #[.int .i64 0, .int .i64 0, .int .i64 0] 39) := Lib.hid (by rw [← hV]; exact HB2.out.far HNE.out _)
     have HVW : Hid (Below w.heap.size w V) := Lib.hid (by rw [← hV]; exact HBW.out.setCell (p := ⟨b8, 2, none⟩) HB8S.out _)
     try rw [hV]
     clear hV c0 c1 c2 f0 f1 f2 x0 x1 x2 y2
     have c0 := HV2.out.cell (j := 0) rfl; have c1 := HV2.out.cell (j := 1) rfl; have c2 := HV2.out.cell (j := 2) rfl
     have f0 := HV2.out.frz 0; have f1 := HV2.out.frz 1; have f2 := HV2.out.frz 2
     have x0 := HV8.out.cell (j := 0) rfl; have x1 := HV8.out.cell (j := 1) rfl; have x2 := HV8.out.cell (j := 2) rfl
     go_wp2_with fail
     obtain ⟨r0, r1, r2, HBF, _⟩ := fin3 HVW.out HB2S.out HV2.out (.int .i64 1) (.int .i64 0) (.int .i64 dn)
     refine bodyPost_ret (v := .tuple #[.agg #[.int .i64 1, .int .i64 0, .int .i64 dn], .int .i64 0]) (by simp [results, Tryz.results29, go_sem, r0, r1, r2]) rfl ?_
     exact ⟨by rw [HAN.out]; rfl, HBF⟩
    ·have g0 : (de != 0) = true := by simpa using hde
     have HAN : Hid (onM (bsO s) = (on0, de)) := Lib.hid (by rw [HT.out, if_pos (by simpa using hde)])
     clear hde
     go_wp2_with (first | (go_at_call 94; refine (HNU.out _).mono ?_; rintro e w' ⟨rfl, hw⟩; rw [hw]; clear hw) | fail)
     obtain ⟨r0, r1, r2, HBF, _⟩ := fin3 HBW.out HB2S.out HB2.out (.int .i64 0) (.int .i64 0) (.int .i64 0)
     refine bodyPost_ret (v := .tuple #[.agg #[.int .i64 0, .int .i64 0, .int .i64 0], .int .i64 de]) (by simp [results, Tryz.results29, go_sem, r0, r1, r2]) rfl ?_
     exact ⟨by rw [HAN.out]; rfl, HBF⟩
   ·have h5' : (s.size : Int) ≤ 5 := by omega
    have HT : Hid (onM (bsO s) = if (dayM (bsO s)).2 ≠ 0 then (on0, (dayM (bsO s)).2) else (⟨1, 0, (dayM (bsO s)).1⟩, 0)) := Lib.hid (HR2.out.trans (if_neg (fun q => h5 q.1)))
    have HTS := HS
    have HB2 := HY2
    have HB8 := HY8
    have HBW := HBY
    generalize Y = W at *
    clear hla hpf
    obtain ⟨dm, hdm⟩ : ∃ q, dayM (bsO s) = q := ⟨_, rfl⟩
    have HNU : Hid (∀ w', Calls Tryz.prog 94 #[.string s] w' fun e w'' => e = .returned (.tuple #[.int .i64 dm.1, .int .i64 dm.2]) ∧ w'' = w') := Lib.hid (by rw [← hdm]; exact fun w' => dayed_any s HTS.out w')
    rw [hdm] at HT
    clear hdm
    obtain ⟨dn, de⟩ := dm
    have c0 := HB2.out.cell (j := 0) rfl; have c1 := HB2.out.cell (j := 1) rfl; have c2 := HB2.out.cell (j := 2) rfl
    have f0 := HB2.out.frz 0; have f1 := HB2.out.frz 1; have f2 := HB2.out.frz 2
    by_cases hde : de = 0
    ·have g0 : (de != 0) = false := by simpa using hde
     have HAN : Hid (onM (bsO s) = (⟨1, 0, dn⟩, 0)) := Lib.hid (by rw [HT.out, if_neg (by simpa using hde)])
     clear hde
     have x0 := HB8.out.cell (j := 0) rfl; have x1 := HB8.out.cell (j := 1) rfl; have x2 := HB8.out.cell (j := 2) rfl
     have y2 := HB8.out.frz 2
     have hne : b2 ≠ b8 := HNE.out
     go_upto_region 17 with (first | (go_at_call 94; refine (HNU.out _).mono ?_; rintro e w' ⟨rfl, hw⟩; rw [hw]; clear hw) | fail)
     go_upto_region 18 with fail
     obtain ⟨V, hV⟩ : ∃ V, W.setCell ⟨b8, 2, none⟩ (.int .i64 dn) = V := ⟨_, rfl⟩
     have HV8 : Hid (Blk V b8 #[.int .i64 1, .int .i64 0, .int .i64 dn] 39) := Lib.hid (by rw [← hV]; exact HB8.out.set (j := 2) _)
     have HV2 : Hid (Blk V b2 #[.int .i64 0, .int .i64 0, .int .i64 0] 39) := Lib.hid (by rw [← hV]; exact HB2.out.far HNE.out _)
     have HVW : Hid (Below w.heap.size w V) := Lib.hid (by rw [← hV]; exact HBW.out.setCell (p := ⟨b8, 2, none⟩) HB8S.out _)
     try rw [hV]
     clear hV c0 c1 c2 f0 f1 f2 x0 x1 x2 y2
     have c0 := HV2.out.cell (j := 0) rfl; have c1 := HV2.out.cell (j := 1) rfl; have c2 := HV2.out.cell (j := 2) rfl
     have f0 := HV2.out.frz 0; have f1 := HV2.out.frz 1; have f2 := HV2.out.frz 2
     have x0 := HV8.out.cell (j := 0) rfl; have x1 := HV8.out.cell (j := 1) rfl; have x2 := HV8.out.cell (j := 2) rfl
     go_wp2_with fail
     obtain ⟨r0, r1, r2, HBF, _⟩ := fin3 HVW.out HB2S.out HV2.out (.int .i64 1) (.int .i64 0) (.int .i64 dn)
     refine bodyPost_ret (v := .tuple #[.agg #[.int .i64 1, .int .i64 0, .int .i64 dn], .int .i64 0]) (by simp [results, Tryz.results29, go_sem, r0, r1, r2]) rfl ?_
     exact ⟨by rw [HAN.out]; rfl, HBF⟩
    ·have g0 : (de != 0) = true := by simpa using hde
     have HAN : Hid (onM (bsO s) = (on0, de)) := Lib.hid (by rw [HT.out, if_pos (by simpa using hde)])
     clear hde
     go_wp2_with (first | (go_at_call 94; refine (HNU.out _).mono ?_; rintro e w' ⟨rfl, hw⟩; rw [hw]; clear hw) | fail)
     obtain ⟨r0, r1, r2, HBF, _⟩ := fin3 HBW.out HB2S.out HB2.out (.int .i64 0) (.int .i64 0) (.int .i64 0)
     refine bodyPost_ret (v := .tuple #[.agg #[.int .i64 0, .int .i64 0, .int .i64 0], .int .i64 de]) (by simp [results, Tryz.results29, go_sem, r0, r1, r2]) rfl ?_
     exact ⟨by rw [HAN.out]; rfl, HBF⟩
  ·have h4' : (s.size : Int) ≤ 4 := by omega
   go_upto_region 6 with fail
   go_upto_region 7 with fail
   obtain ⟨b8, hb8⟩ : ∃ b, X.heap.size = b := ⟨_, rfl⟩
   obtain ⟨Y, hY⟩ : ∃ Y, X.alloc (.cells #[.int .i64 1, .int .i64 0, .int .i64 0] 39) = Y := ⟨_, rfl⟩
   have HY8 : Hid (Blk Y b8 #[.int .i64 1, .int .i64 0, .int .i64 0] 39) := Lib.hid (by rw [← hY, ← hb8]; exact Blk.new _ _ _)
   have HXY : Hid (Below X.heap.size X Y) := Lib.hid (by rw [← hY]; exact below_box)
   have HBY := Lib.hid (keepBelow HBX.out HXY.out)
   have HY2 := Lib.hid (HX2.out.below HXY.out)
   have HNE : Hid (b2 ≠ b8) := Lib.hid (by have := HX2.out.lt; omega)
   have HB8S : Hid (w.heap.size ≤ b8) := Lib.hid (by rw [← hb8]; exact HBX.out.size)
   try rw [hY]
   try rw [hb8]
   clear hY hb8
   have HT : Hid (onM (bsO s) = if (dayM (bsO s)).2 ≠ 0 then (on0, (dayM (bsO s)).2) else (⟨1, 0, (dayM (bsO s)).1⟩, 0)) := Lib.hid (HR2.out.trans (if_neg (fun q => absurd q.1 (by omega))))
   have HTS := HS
   have HB2 := HY2
   have HB8 := HY8
   have HBW := HBY
   generalize Y = W at *
   clear hla
   obtain ⟨dm, hdm⟩ : ∃ q, dayM (bsO s) = q := ⟨_, rfl⟩
   have HNU : Hid (∀ w', Calls Tryz.prog 94 #[.string s] w' fun e w'' => e = .returned (.tuple #[.int .i64 dm.1, .int .i64 dm.2]) ∧ w'' = w') := Lib.hid (by rw [← hdm]; exact fun w' => dayed_any s HTS.out w')
   rw [hdm] at HT
   clear hdm
   obtain ⟨dn, de⟩ := dm
   have c0 := HB2.out.cell (j := 0) rfl; have c1 := HB2.out.cell (j := 1) rfl; have c2 := HB2.out.cell (j := 2) rfl
   have f0 := HB2.out.frz 0; have f1 := HB2.out.frz 1; have f2 := HB2.out.frz 2
   by_cases hde : de = 0
   ·have g0 : (de != 0) = false := by simpa using hde
    have HAN : Hid (onM (bsO s) = (⟨1, 0, dn⟩, 0)) := Lib.hid (by rw [HT.out, if_neg (by simpa using hde)])
    clear hde
    have x0 := HB8.out.cell (j := 0) rfl; have x1 := HB8.out.cell (j := 1) rfl; have x2 := HB8.out.cell (j := 2) rfl
    have y2 := HB8.out.frz 2
    have hne : b2 ≠ b8 := HNE.out
    go_upto_region 17 with (first | (go_at_call 94; refine (HNU.out _).mono ?_; rintro e w' ⟨rfl, hw⟩; rw [hw]; clear hw) | fail)
    go_upto_region 18 with fail
    obtain ⟨V, hV⟩ : ∃ V, W.setCell ⟨b8, 2, none⟩ (.int .i64 dn) = V := ⟨_, rfl⟩
    have HV8 : Hid (Blk V b8 #[.int .i64 1, .int .i64 0, .int .i64 dn] 39) := Lib.hid (by rw [← hV]; exact HB8.out.set (j := 2) _)
    have HV2 : Hid (Blk V b2 #[.int .i64 0, .int .i64 0, .int .i64 0] 39) := Lib.hid (by rw [← hV]; exact HB2.out.far HNE.out _)
    have HVW : Hid (Below w.heap.size w V) := Lib.hid (by rw [← hV]; exact HBW.out.setCell (p := ⟨b8, 2, none⟩) HB8S.out _)
    try rw [hV]
    clear hV c0 c1 c2 f0 f1 f2 x0 x1 x2 y2
    have c0 := HV2.out.cell (j := 0) rfl; have c1 := HV2.out.cell (j := 1) rfl; have c2 := HV2.out.cell (j := 2) rfl
    have f0 := HV2.out.frz 0; have f1 := HV2.out.frz 1; have f2 := HV2.out.frz 2
    have x0 := HV8.out.cell (j := 0) rfl; have x1 := HV8.out.cell (j := 1) rfl; have x2 := HV8.out.cell (j := 2) rfl
    go_wp2_with fail
    obtain ⟨r0, r1, r2, HBF, _⟩ := fin3 HVW.out HB2S.out HV2.out (.int .i64 1) (.int .i64 0) (.int .i64 dn)
    refine bodyPost_ret (v := .tuple #[.agg #[.int .i64 1, .int .i64 0, .int .i64 dn], .int .i64 0]) (by simp [results, Tryz.results29, go_sem, r0, r1, r2]) rfl ?_
    exact ⟨by rw [HAN.out]; rfl, HBF⟩
   ·have g0 : (de != 0) = true := by simpa using hde
    have HAN : Hid (onM (bsO s) = (on0, de)) := Lib.hid (by rw [HT.out, if_pos (by simpa using hde)])
    clear hde
    go_wp2_with (first | (go_at_call 94; refine (HNU.out _).mono ?_; rintro e w' ⟨rfl, hw⟩; rw [hw]; clear hw) | fail)
    obtain ⟨r0, r1, r2, HBF, _⟩ := fin3 HBW.out HB2S.out HB2.out (.int .i64 0) (.int .i64 0) (.int .i64 0)
    refine bodyPost_ret (v := .tuple #[.agg #[.int .i64 0, .int .i64 0, .int .i64 0], .int .i64 de]) (by simp [results, Tryz.results29, go_sem, r0, r1, r2]) rfl ?_
    exact ⟨by rw [HAN.out]; rfl, HBF⟩
end Go.Proofs.YtlbglinpgjlbkaaGreatDoor
