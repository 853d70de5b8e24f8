import Derived.Test.YtlbglinpgjlbkaaGreatDoorWkQi
import Derived.Maps.OwnOps
import Derived.Maps.Views
import Derived.Maps.StringElems
/- Zone texts: the program's offsets and clock times. -/
namespace Go.Proofs.YtlbglinpgjlbkaaGreatDoor
open Go.RowKit Wk

set_option maxRecDepth 100000 in
set_option maxHeartbeats 2000000 in
theorem offset_any (s : ByteArray) (hs : s.size < 4294967281) (w : World) (hg : Glob w) :
  Calls Tryz.prog 126 #[.string s] w fun e w' => e = .returned (.tuple #[.int .i64 (offsetM (bsO s)).1, .int .i64 (offsetM (bsO s)).2]) ∧ Below w.heap.size w w' := by
 obtain ⟨n, hn⟩ : ∃ n, offsetM (bsO s) = n := ⟨_, rfl⟩
 rw [hn]
 have HN := Lib.hid hn
 clear hn
 obtain ⟨T, hT⟩ : ∃ T : ByteArray, ⟨(absB (bsO s)).toArray⟩ = T := ⟨_, rfl⟩
 obtain ⟨neg, hneg⟩ : ∃ b, negB (bsO s) = b := ⟨_, rfl⟩
 have HC := Lib.hid (cut_minus s w)
 rw [hT, hneg] at HC
 have HT : Hid (bsO T = absB (bsO s)) := Lib.hid (by rw [← hT])
 have hts : T.size < 4294967281 := by
  have h1 := congrArg List.length HT.out
  rw [bs_len] at h1
  have h2 : (absB (bsO s)).length ≤ (bsO s).length := by
   unfold absB
   split
   ·simp
   ·exact Nat.le_refl _
  rw [bs_len] at h2
  omega
 have hoff : offsetM (bsO s) = match spanM (bsO T) with
   | none => (0, 3)
   | some n => if (neg && n == 0) = true then (0, 3) else if 93600 < n then (0, 2) else ((if neg = true then -(n : Int) else n), 0) := by
  rw [HT.out, ← hneg]
  rfl
 have hsp := span_any T hts w hg
 clear hneg hT
 go_enter Tryz.func126, Tryz.ntmps126
 cases hm : spanM (bsO T) with
 | none =>
  have hp : spanP (bsO T) = (0, false) := by unfold spanP; rw [hm]
  rw [hp] at hsp
  rw [hm] at hoff
  have HS := Lib.hid hsp
  clear hsp hm hp
  have HO : Hid (offsetM (bsO s) = (0, 3)) := Lib.hid (by rw [hoff])
  clear hoff
  go_wp2_with (first | (go_at_call 87; refine HC.out.mono ?_; rintro e w' ⟨rfl, rfl⟩) | (go_at_call 185; refine HS.out.mono ?_; rintro e w' ⟨rfl, hb⟩) | (fail))
  go_ret2
  exact ⟨off_ret HN.out HO.out, by assumption⟩
 | some m =>
  have hp : spanP (bsO T) = ((m : Int), true) := by unfold spanP; rw [hm]
  have hmb := span_bd hm
  have hmi : (m : Int) ≤ 400000 := by omega
  rw [hp] at hsp
  rw [hm] at hoff
  simp only at hoff
  have HS := Lib.hid hsp
  clear hsp hm hp
  cases neg with
  | true =>
   by_cases hz : m = 0
   ·subst hz
    have HO : Hid (offsetM (bsO s) = (0, 3)) := Lib.hid (by rw [hoff]; rfl)
    clear hoff
    go_wp2_with (first | (go_at_call 87; refine HC.out.mono ?_; rintro e w' ⟨rfl, rfl⟩) | (go_at_call 185; refine HS.out.mono ?_; rintro e w' ⟨rfl, hb⟩) | (fail))
    go_ret2
    exact ⟨off_ret HN.out HO.out, by assumption⟩
   ·have gz : ((m : Int) == 0) = false := by simp; omega
    have gz2 : (m == 0) = false := by simpa using hz
    rw [gz2] at hoff
    by_cases hb : 93600 < m
    ·have gb : (93600 : Int) < m := by omega
     have HO : Hid (offsetM (bsO s) = (0, 2)) := Lib.hid (by rw [hoff]; rw [if_neg (by simp), if_pos hb])
     clear hoff
     go_wp2_with (first | (go_at_call 87; refine HC.out.mono ?_; rintro e w' ⟨rfl, rfl⟩) | (go_at_call 185; refine HS.out.mono ?_; rintro e w' ⟨rfl, hb⟩) | (fail))
     go_ret2
     exact ⟨off_ret HN.out HO.out, by assumption⟩
    ·have gb : ¬(93600 : Int) < m := by omega
     have HO : Hid (offsetM (bsO s) = (-(m : Int), 0)) := Lib.hid (by rw [hoff]; rw [if_neg (by simp), if_neg hb]; rfl)
     clear hoff
     go_wp2_with (first | (go_at_call 87; refine HC.out.mono ?_; rintro e w' ⟨rfl, rfl⟩) | (go_at_call 185; refine HS.out.mono ?_; rintro e w' ⟨rfl, hb⟩) | (fail))
     go_ret2
     exact ⟨off_ret HN.out HO.out, by assumption⟩
  | false =>
   by_cases hb : 93600 < m
   ·have gb : (93600 : Int) < m := by omega
    have HO : Hid (offsetM (bsO s) = (0, 2)) := Lib.hid (by rw [hoff]; rw [if_neg (by simp), if_pos hb])
    clear hoff
    go_wp2_with (first | (go_at_call 87; refine HC.out.mono ?_; rintro e w' ⟨rfl, rfl⟩) | (go_at_call 185; refine HS.out.mono ?_; rintro e w' ⟨rfl, hb⟩) | (fail))
    go_ret2
    exact ⟨off_ret HN.out HO.out, by assumption⟩
   ·have gb : ¬(93600 : Int) < m := by omega
    have HO : Hid (offsetM (bsO s) = ((m : Int), 0)) := Lib.hid (by rw [hoff]; rw [if_neg (by simp), if_neg hb]; rfl)
    clear hoff
    go_wp2_with (first | (go_at_call 87; refine HC.out.mono ?_; rintro e w' ⟨rfl, rfl⟩) | (go_at_call 185; refine HS.out.mono ?_; rintro e w' ⟨rfl, hb⟩) | (fail))
    go_ret2
    exact ⟨off_ret HN.out HO.out, by assumption⟩
theorem idx_wsu (x : UInt8) (w : World) :
  Calls Tryz.prog 144 #[.string ⟨#[119, 115, 117]⟩, .int .u8 (x.toNat : Int)] w fun e w' => e = .returned (.int .i64 (if x = 119 then 0 else if x = 115 then 1 else if x = 117 then 2 else -1)) ∧ w' = w := by
 refine (Tryz.strings_IndexByte _ _ _).mono ?_
 rintro e w' ⟨rfl, rfl⟩
 refine ⟨?_, rfl⟩
 have : (x.toNat : Int).toNat.toUInt8 = x := by simp
 rw [this]
 have h : Lib.indexByte [119, 115, 117] x = if x = 119 then 0 else if x = 115 then 1 else if x = 117 then 2 else -1 := by
  by_cases h1 : x = 119
  ·subst h1; decide
  ·by_cases h2 : x = 115
   ·subst h2; decide
   ·by_cases h3 : x = 117
    ·subst h3; decide
    ·rw [if_neg h1, if_neg h2, if_neg h3]
     have hc := Lib.contains_iff_indexByte [119, 115, 117] x
     have hb : ([119, 115, 117] : List UInt8).contains x = false := by
      simp [h1, h2, h3]
     rw [hb] at hc
     have hlt : Lib.indexByte [119, 115, 117] x < 0 := by
      have := hc.symm
      rw [decide_eq_false_iff_not] at this
      omega
     have hge : -1 ≤ Lib.indexByte [119, 115, 117] x := Lib.indexByte_ge _ _
     omega
 show Ending.returned (.int .i64 (Lib.indexByte [119, 115, 117] x)) = _
 rw [h]
end Go.Proofs.YtlbglinpgjlbkaaGreatDoor
namespace Go.Proofs.YtlbglinpgjlbkaaGreatDoor
open Go.RowKit Wk

set_option maxRecDepth 100000 in
set_option maxHeartbeats 2000000 in
theorem clock_any (s : ByteArray) (hs : s.size < 4294967281) (w : World) (hg : Glob w) :
  Calls Tryz.prog 183 #[.string s] w fun e w' => e = .returned (.tuple #[.int .i64 (clockM (bsO s)).1, .int .i64 (clockM (bsO s)).2.1, .int .i64 (clockM (bsO s)).2.2]) ∧ Below w.heap.size w w' := by
 obtain ⟨n, hn⟩ : ∃ n, clockM (bsO s) = n := ⟨_, rfl⟩
 rw [hn]
 have HN := Lib.hid hn
 clear hn
 have HS2 := Lib.hid (span_any s hs w hg)
 go_enter Tryz.func183, Tryz.ntmps183
 by_cases h0 : 0 < s.size
 ·have hsi : (s.size : Int) ≤ 4294967280 := by omega
  have h1 : (1 : Int) ≤ s.size := by omega
  have gne : s.toList.isEmpty = false := by
   have : ¬s.toList = [] := fun q => by have := (toList_nil s).1 q; omega
   simpa using this
  have hlt : s.size - 1 < s.size := by omega
  have hl := last_at s h0
  obtain ⟨x, hx⟩ : ∃ x, s[s.size - 1]'(by omega) = x := ⟨_, rfl⟩
  rw [hx] at hl
  obtain ⟨T, hT⟩ : ∃ T, s.extract 0 (s.size - 1) = T := ⟨_, rfl⟩
  have hTb : (bsO s).dropLast = bsO T := by
   rw [← hT, bs_ext, List.drop_zero, List.dropLast_eq_take, bs_len]
  have hts : T.size < 4294967281 := by
   have h := congrArg List.length (bs_ext s 0 (s.size - 1))
   rw [hT, bs_len, List.drop_zero, List.length_take, bs_len] at h
   omega
  have HIX := Lib.hid (idx_wsu x)
  have HTS : Hid (∀ w', Below w.heap.size w w' → Calls Tryz.prog 185 #[.string T] w' fun e w'' => e = .returned (.tuple #[.int .i64 (spanP (bsO T)).1, .bool (spanP (bsO T)).2]) ∧ Below w'.heap.size w' w'') := Lib.hid fun w' hb => span_any T hts w' (hg.below hb)
  have hwr : IntKind.i64.wrap ((s.size : Int) - 1) = (s.size : Int) - 1 := by rw [IntKind.wrap_i64]; omega
  have htn : ((s.size : Int) - 1).toNat = s.size - 1 := by omega
  by_cases h119 : x = 119
  ·have HK : Hid (clkCut (bsO s) = bsO T ∧ clkOf (bsO s) = 1) := by
    refine Lib.hid ?_
    unfold clkCut clkOf
    rw [hl, h119]
    exact ⟨hTb, rfl⟩
   have hix : (if x = 119 then (0 : Int) else if x = 115 then 1 else if x = 117 then 2 else -1) = 0 := by rw [h119]; rfl
   rw [hix] at HIX
   have hnw : ∀ X : World, (X.alloc (.cells #[.int .i64 1, .int .i64 2, .int .i64 3] 3)).cell? ⟨X.heap.size, 0, none⟩ = some (.int .i64 1) := fun X => by simp [go_sem]
   clear hl hTb hix h119
   go_upto_region 5 with (first | (go_at_call 144; refine (HIX.out _).mono ?_; rintro e w' ⟨rfl, hw⟩; rw [hw]; clear hw) | fail)
   go_cut [0, 3] (fun u0 u3 wx => u0 = .string T ∧ u3 = .int .i64 1 ∧ Hid (Below w.heap.size w wx))
   case first =>
    go_region
    all_goals go_wp2_with fail
    all_goals go_meet
    all_goals (case rel => exact ⟨by first | rfl | rw [hT], rfl, by first | exact ((Below.refl _ _).drew).alloc (Nat.le_refl _) _ | exact ((Below.refl _ _).alloc (Nat.le_refl _) _).drew⟩)
   case rest =>
   obtain ⟨rfl, rfl, HBc⟩ := hcut
   have HSc := Lib.hid (HTS.out _ HBc.out)
   generalize wc = V at *
   clear HTS HS2 HIX hnw hT hx
   go_wp2_with (first | (go_at_call 185; refine HSc.out.mono ?_; rintro e w' ⟨rfl, hb⟩) | (fail))
   all_goals go_ret3
   all_goals refine ⟨clk_ret HN.out (clk_of HK.out.1 HK.out.2 ?_), keepBelow HBc.out (by assumption)⟩
   ·exact .inl ⟨by simpa using (by assumption : (!(spanP (bsO T)).2) = true), rfl⟩
   ·exact .inr (.inl ⟨by simpa using (by assumption : (!(spanP (bsO T)).2) = false), by assumption, rfl⟩)
   ·exact .inr (.inr ⟨by simpa using (by assumption : (!(spanP (bsO T)).2) = false), by omega, rfl⟩)
  ·skip
   by_cases h115 : x = 115
   ·have HK : Hid (clkCut (bsO s) = bsO T ∧ clkOf (bsO s) = 2) := by
     refine Lib.hid ?_
     unfold clkCut clkOf
     rw [hl, h115]
     exact ⟨hTb, rfl⟩
    have hix : (if x = 119 then (0 : Int) else if x = 115 then 1 else if x = 117 then 2 else -1) = 1 := by rw [h115]; rfl
    rw [hix] at HIX
    have hnw : ∀ X : World, (X.alloc (.cells #[.int .i64 1, .int .i64 2, .int .i64 3] 3)).cell? ⟨X.heap.size, 1, none⟩ = some (.int .i64 2) := fun X => by simp [go_sem]
    clear hl hTb hix h115
    go_upto_region 5 with (first | (go_at_call 144; refine (HIX.out _).mono ?_; rintro e w' ⟨rfl, hw⟩; rw [hw]; clear hw) | fail)
    go_cut [0, 3] (fun u0 u3 wx => u0 = .string T ∧ u3 = .int .i64 2 ∧ Hid (Below w.heap.size w wx))
    case first =>
     go_region
     all_goals go_wp2_with fail
     all_goals go_meet
     all_goals (case rel => exact ⟨by first | rfl | rw [hT], rfl, by first | exact ((Below.refl _ _).drew).alloc (Nat.le_refl _) _ | exact ((Below.refl _ _).alloc (Nat.le_refl _) _).drew⟩)
    case rest =>
    obtain ⟨rfl, rfl, HBc⟩ := hcut
    have HSc := Lib.hid (HTS.out _ HBc.out)
    generalize wc = V at *
    clear HTS HS2 HIX hnw hT hx
    go_wp2_with (first | (go_at_call 185; refine HSc.out.mono ?_; rintro e w' ⟨rfl, hb⟩) | (fail))
    all_goals go_ret3
    all_goals refine ⟨clk_ret HN.out (clk_of HK.out.1 HK.out.2 ?_), keepBelow HBc.out (by assumption)⟩
    ·exact .inl ⟨by simpa using (by assumption : (!(spanP (bsO T)).2) = true), rfl⟩
    ·exact .inr (.inl ⟨by simpa using (by assumption : (!(spanP (bsO T)).2) = false), by assumption, rfl⟩)
    ·exact .inr (.inr ⟨by simpa using (by assumption : (!(spanP (bsO T)).2) = false), by omega, rfl⟩)
   ·skip
    by_cases h117 : x = 117
    ·have HK : Hid (clkCut (bsO s) = bsO T ∧ clkOf (bsO s) = 3) := by
      refine Lib.hid ?_
      unfold clkCut clkOf
      rw [hl, h117]
      exact ⟨hTb, rfl⟩
     have hix : (if x = 119 then (0 : Int) else if x = 115 then 1 else if x = 117 then 2 else -1) = 2 := by rw [h117]; rfl
     rw [hix] at HIX
     have hnw : ∀ X : World, (X.alloc (.cells #[.int .i64 1, .int .i64 2, .int .i64 3] 3)).cell? ⟨X.heap.size, 2, none⟩ = some (.int .i64 3) := fun X => by simp [go_sem]
     clear hl hTb hix h117
     go_upto_region 5 with (first | (go_at_call 144; refine (HIX.out _).mono ?_; rintro e w' ⟨rfl, hw⟩; rw [hw]; clear hw) | fail)
     go_cut [0, 3] (fun u0 u3 wx => u0 = .string T ∧ u3 = .int .i64 3 ∧ Hid (Below w.heap.size w wx))
     case first =>
      go_region
      all_goals go_wp2_with fail
      all_goals go_meet
      all_goals (case rel => exact ⟨by first | rfl | rw [hT], rfl, by first | exact ((Below.refl _ _).drew).alloc (Nat.le_refl _) _ | exact ((Below.refl _ _).alloc (Nat.le_refl _) _).drew⟩)
     case rest =>
     obtain ⟨rfl, rfl, HBc⟩ := hcut
     have HSc := Lib.hid (HTS.out _ HBc.out)
     generalize wc = V at *
     clear HTS HS2 HIX hnw hT hx
     go_wp2_with (first | (go_at_call 185; refine HSc.out.mono ?_; rintro e w' ⟨rfl, hb⟩) | (fail))
     all_goals go_ret3
     all_goals refine ⟨clk_ret HN.out (clk_of HK.out.1 HK.out.2 ?_), keepBelow HBc.out (by assumption)⟩
     ·exact .inl ⟨by simpa using (by assumption : (!(spanP (bsO T)).2) = true), rfl⟩
     ·exact .inr (.inl ⟨by simpa using (by assumption : (!(spanP (bsO T)).2) = false), by assumption, rfl⟩)
     ·exact .inr (.inr ⟨by simpa using (by assumption : (!(spanP (bsO T)).2) = false), by omega, rfl⟩)
    ·skip
     have HK : Hid (clkCut (bsO s) = bsO s ∧ clkOf (bsO s) = 1) := by
      refine Lib.hid ?_
      unfold clkCut clkOf
      rw [hl]
      constructor
      ·split
       ·rename_i q; injection q with q; exact absurd q h119
       ·rename_i q; injection q with q; exact absurd q h115
       ·rename_i q; injection q with q; exact absurd q h117
       ·rfl
      ·split
       ·rename_i q; injection q with q; exact absurd q h115
       ·rename_i q; injection q with q; exact absurd q h117
       ·rfl
     have hix : (if x = 119 then (0 : Int) else if x = 115 then 1 else if x = 117 then 2 else -1) = -1 := by rw [if_neg h119, if_neg h115, if_neg h117]
     rw [hix] at HIX
     clear hl hTb hix h119 h115 h117
     go_wp2_with (first | (go_at_call 144; refine (HIX.out _).mono ?_; rintro e w' ⟨rfl, rfl⟩) | (go_at_call 185; refine HS2.out.mono ?_; rintro e w' ⟨rfl, hb⟩) | (fail))
     all_goals go_ret3
     all_goals refine ⟨clk_ret HN.out (clk_of HK.out.1 HK.out.2 ?_), by assumption⟩
     ·exact .inl ⟨by simpa using (by assumption : (!(spanP (bsO s)).2) = true), rfl⟩
     ·exact .inr (.inl ⟨by simpa using (by assumption : (!(spanP (bsO s)).2) = false), by assumption, rfl⟩)
     ·exact .inr (.inr ⟨by simpa using (by assumption : (!(spanP (bsO s)).2) = false), by omega, rfl⟩)
 ·have HK : Hid (clkCut (bsO s) = bsO s ∧ clkOf (bsO s) = 1) := by
   refine Lib.hid ?_
   have e : bsO s = [] := List.eq_nil_of_length_eq_zero (by rw [bs_len]; omega)
   rw [e]
   exact ⟨rfl, rfl⟩
  have gne : s.toList.isEmpty = true := by
   have : s.toList = [] := (toList_nil s).2 (by omega)
   rw [this]; rfl
  clear h0
  go_wp2_with (first | (go_at_call 185; refine HS2.out.mono ?_; rintro e w' ⟨rfl, hb⟩) | (fail))
  all_goals go_ret3
  all_goals refine ⟨clk_ret HN.out (clk_of HK.out.1 HK.out.2 ?_), by assumption⟩
  ·exact .inl ⟨by simpa using (by assumption : (!(spanP (bsO s)).2) = true), rfl⟩
  ·exact .inr (.inl ⟨by simpa using (by assumption : (!(spanP (bsO s)).2) = false), by assumption, rfl⟩)
  ·exact .inr (.inr ⟨by simpa using (by assumption : (!(spanP (bsO s)).2) = false), by omega, rfl⟩)
end Go.Proofs.YtlbglinpgjlbkaaGreatDoor
namespace Go.Proofs.YtlbglinpgjlbkaaGreatDoor
open Go.RowKit Wk Go.Maps

theorem wpList_insert_own {H : Type} {P : Program} (w : World) {ops : Array Oper} {rest : List Oper} {o : Oper} {a : Act} {Q : Exit → Act → World → Prop}
  (hg : o.guard = none) (m x v : Operand) (t : TypeId) (hop : o.op = Op.insert t m x v)
  (k e : TypeId) (K : Keyed P k) (ht : P.underlying t = some (.map k e)) (R : Value → Option (DataW H × List MemPlace)) (b n : Nat) (D : DataW H)
  (hm : a.eval m = .map (some b)) (hown : w.ownsMap P k R b n D) (hn : n < maxLen) (key val : Value) (kl : Lit) (hx : a.eval x = key) (hv : a.eval v = val) (hkey : keyOf P k key = some kl)
  (d : DataW H) (ps : List MemPlace) (hval : R val = some (d, ps))
  (hK : ∀ w', w'.ownsMap P k R b (n + 1) (D.put kl d) → w.grownBy w' (some b) → wpList P ops Q rest (a.put o.dst undef) w') :
  wpList P ops Q (o :: rest) a w := by
 refine wpList_plain hg fun K' hK' => ?_
 obtain ⟨w', hrun, r1, r2⟩ := hown.update K ht hn hkey hval
 unfold Oper.wp
 simp [execOp, hop, hm, hx, hv, hrun, Result.andThen]
 exact hK' _ _ (hK w' r1 r2)
theorem below_map {w w' : World} {b : Nat} (hw : w.grownBy w' (some b)) {B : Nat} (h : B ≤ b) (hB : B ≤ w.heap.size) : Below B w w' :=
 ⟨hw.os, hw.tape, hw.output, hw.size, fun k hk => hw.block k (by omega) (by intro e; injection e with e; omega)⟩

end Go.Proofs.YtlbglinpgjlbkaaGreatDoor
