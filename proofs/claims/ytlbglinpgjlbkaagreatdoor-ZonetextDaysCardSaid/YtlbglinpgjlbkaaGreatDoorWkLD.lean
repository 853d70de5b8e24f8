import Derived.Test.YtlbglinpgjlbkaaGreatDoorWkO1
import Derived.Test.YtlbglinpgjlbkaaGreatDoorWkL0
/- Zone texts: the law Days. Printed by gen_zd.py. -/
namespace Go.Proofs.YtlbglinpgjlbkaaGreatDoor
open Go.RowKit Wk

theorem ld_ne (N : ByteArray) (l : Bs) : (N.toList = l) ↔ (bsO N = l) := by rw [Lib.toList_data]
set_option maxRecDepth 100000 in
set_option maxHeartbeats 8000000 in
theorem law_Days (s : ByteArray) (o : OnT) (w : World) (hg : Glob w) (hT : TabP w) :
  Calls Tryz.prog 6 #[.string s, onV o] w fun e w' => e = .returned (.bool true) ∧ Below w.heap.size w w' := by
 have HG := Lib.hid hg
 have HT := Lib.hid hT
 clear hg hT
 have HAW : Hid (∀ W, Below w.heap.size w W → Calls Tryz.prog 11 #[] W fun e w' => e = .returned (.bool true) ∧ Below W.heap.size W w') := Lib.hid fun W hW => awake_any W (HG.out.below hW)
 obtain ⟨T, hT⟩ : ∃ T : ByteArray, ⟨(onT o).toArray⟩ = T := ⟨_, rfl⟩
 have HTE : Hid (bsO T = onT o) := Lib.hid (by rw [← hT])
 have HOT : Hid (∀ W, Below w.heap.size w W → Calls Tryz.prog 30 #[onV o] W fun e w' => e = .returned (.string T) ∧ Below W.heap.size W w') := Lib.hid fun W hW => by
  rw [← hT]
  exact onText_any o W (HT.out.below hW)
 have HOR : Hid (∀ W, Calls Tryz.prog 31 #[onV o] W fun e w' => e = .returned (.string T) ∧ Below W.heap.size W w') := Lib.hid fun W => by
  rw [← hT]
  exact onText19_any o W
 have HVO : Hid (∀ W, Calls Tryz.prog 32 #[onV o] W fun e w' => e = .returned (.bool (onB o)) ∧ Below W.heap.size W w') := Lib.hid fun W => validOn19_any o W
 have HNI : Hid (bsO T = [] ↔ onB o = false) := Lib.hid (by rw [HTE.out]; exact onT_nil)
 have HOK : Hid (onB o = true → onM (bsO T) = (o, 0) ∧ T.size ≤ 7) := Lib.hid fun h => by
  have q := on_ok h
  rw [← HTE.out] at q
  exact ⟨q.1, by have := q.2.2; rwa [bs_len] at this⟩
 clear hT
 obtain ⟨k, v, d⟩ := o
 unfold onV at HOT HOR HVO ⊢
 simp only at HOT HOR HVO ⊢
 go_enter Tryz.func6, Tryz.ntmps6
 go_upto_region 1 with fail
 obtain ⟨b3, hb3⟩ : ∃ b, w.heap.size = b := ⟨_, rfl⟩
 obtain ⟨X, hX⟩ : ∃ X, w.alloc (.cells #[.int .i64 k, .int .i64 v, .int .i64 d] 39) = X := ⟨_, rfl⟩
 have HBX : Hid (Below w.heap.size w X) := Lib.hid (by rw [← hX]; exact (Below.refl _ _).alloc (Nat.le_refl _) _)
 have HX3 : Hid (Blk X b3 #[.int .i64 k, .int .i64 v, .int .i64 d] 39) := Lib.hid (by rw [← hX, ← hb3]; exact Blk.new _ _ _)
 try rw [hX]
 try rw [hb3]
 clear hX hb3
 go_upto_region 3 with (first | (go_at_call 11; refine (HAW.out _ HBX.out).mono ?_; rintro e w1 ⟨rfl, hb⟩; obtain ⟨W1, hW1⟩ : ∃ W, w1 = W := ⟨_, rfl⟩; rw [hW1] at hb ⊢; clear hW1; have HB1 := Lib.hid (keepBelow HBX.out hb); have HK1 := Lib.hid (HX3.out.below hb); clear hb) | fail)
 by_cases hs : (60 : Int) < s.size
 ·go_wp2_with fail
  go_ret
  exact ⟨rfl, HB1.out⟩
 have HSZ : Hid (s.size < 4294967281) := Lib.hid (by omega)
 obtain ⟨R, hR⟩ : ∃ R, onM (bsO s) = R := ⟨_, rfl⟩
 have HBK : Hid (R.2 = 0 → onT R.1 = bsO s) := Lib.hid fun h => by
  rw [← hR] at h ⊢
  exact (on_back h).2
 obtain ⟨⟨k1, v1, d1⟩, e1⟩ := R
 have HON : Hid (∀ W, Below w.heap.size w W → Calls Tryz.prog 28 #[.string s] W fun e w' => e = .returned (.tuple #[.agg #[.int .i64 k1, .int .i64 v1, .int .i64 d1], .int .i64 e1]) ∧ Below W.heap.size W w') := Lib.hid fun W hW => by
  have q := on_any s HSZ.out W (HG.out.below hW)
  rw [hR] at q
  exact q
 have HO9 : Hid (∀ W, Calls Tryz.prog 29 #[.string s] W fun e w' => e = .returned (.tuple #[.agg #[.int .i64 k1, .int .i64 v1, .int .i64 d1], .int .i64 e1]) ∧ Below W.heap.size W w') := Lib.hid fun W => by
  have q := on19_any s HSZ.out W
  rw [hR] at q
  exact q
 have HO1 : Hid (e1 = 0 → ∀ W, Below w.heap.size w W → Calls Tryz.prog 30 #[.agg #[.int .i64 k1, .int .i64 v1, .int .i64 d1]] W fun e w' => e = .returned (.string s) ∧ Below W.heap.size W w') := Lib.hid fun he W hW => by
  have q := onText_any ⟨k1, v1, d1⟩ W (HT.out.below hW)
  rw [HBK.out he] at q
  exact q
 clear hR
 go_upto_region 6 with (first | (go_at_call 28; refine (HON.out _ HB1.out).mono ?_; rintro e w2 ⟨rfl, hb⟩; obtain ⟨W2, hW2⟩ : ∃ W, w2 = W := ⟨_, rfl⟩; rw [hW2] at hb ⊢; clear hW2; have HB2 := Lib.hid (keepBelow HB1.out hb); have HK2 := Lib.hid (HK1.out.below hb); clear hb) | fail)
 obtain ⟨b5, hb5⟩ : ∃ b, W2.heap.size = b := ⟨_, rfl⟩
 obtain ⟨Y, hY⟩ : ∃ Y, W2.alloc (.cells #[.int .i64 k1, .int .i64 v1, .int .i64 d1] 39) = Y := ⟨_, rfl⟩
 have HBY : Hid (Below W2.heap.size W2 Y) := Lib.hid (by rw [← hY]; exact (Below.refl _ _).alloc (Nat.le_refl _) _)
 have HY5 : Hid (Blk Y b5 #[.int .i64 k1, .int .i64 v1, .int .i64 d1] 39) := Lib.hid (by rw [← hY, ← hb5]; exact Blk.new _ _ _)
 try rw [hY]
 try rw [hb5]
 clear hY hb5
 go_upto_region 7 with (first | (go_at_call 29; refine (HO9.out _).mono ?_; rintro e w3 ⟨rfl, hb⟩; obtain ⟨W3, hW3⟩ : ∃ W, w3 = W := ⟨_, rfl⟩; rw [hW3] at hb ⊢; clear hW3; have HB3 := Lib.hid (keepBelow (keepBelow HB2.out HBY.out) hb); have HK3 := Lib.hid ((HK2.out.below HBY.out).below hb); have HL3 := Lib.hid (HY5.out.below hb); clear hb) | fail)
 obtain ⟨b7, hb7⟩ : ∃ b, W3.heap.size = b := ⟨_, rfl⟩
 obtain ⟨Z, hZ⟩ : ∃ Z, W3.alloc (.cells #[.int .i64 k1, .int .i64 v1, .int .i64 d1] 39) = Z := ⟨_, rfl⟩
 have HBZ : Hid (Below W3.heap.size W3 Z) := Lib.hid (by rw [← hZ]; exact (Below.refl _ _).alloc (Nat.le_refl _) _)
 have HZ7 : Hid (Blk Z b7 #[.int .i64 k1, .int .i64 v1, .int .i64 d1] 39) := Lib.hid (by rw [← hZ, ← hb7]; exact Blk.new _ _ _)
 have HKZ := Lib.hid (HK3.out.below HBZ.out)
 have HLZ := Lib.hid (HL3.out.below HBZ.out)
 have HBW := Lib.hid (keepBelow HB3.out HBZ.out)
 try rw [hZ]
 try rw [hb7]
 clear hZ hb7
 have x0 := HKZ.out.cell (j := 0) rfl
 have x1 := HKZ.out.cell (j := 1) rfl
 have x2 := HKZ.out.cell (j := 2) rfl
 go_upto_region 8 with (first | (go_at_call 30; refine (HOT.out _ HBW.out).mono ?_; rintro e w4 ⟨rfl, hb⟩; obtain ⟨W4, hW4⟩ : ∃ W, w4 = W := ⟨_, rfl⟩; rw [hW4] at hb ⊢; clear hW4; have HB4 := Lib.hid (keepBelow HBW.out hb); have HK4 := Lib.hid (HKZ.out.below hb); have HL4 := Lib.hid (HLZ.out.below hb); have HM4 := Lib.hid (HZ7.out.below hb); clear hb) | fail)
 have y0 := HK4.out.cell (j := 0) rfl
 have y1 := HK4.out.cell (j := 1) rfl
 have y2 := HK4.out.cell (j := 2) rfl
 have z0 := HL4.out.cell (j := 0) rfl
 have z1 := HL4.out.cell (j := 1) rfl
 have z2 := HL4.out.cell (j := 2) rfl
 have u0 := HM4.out.cell (j := 0) rfl
 have u1 := HM4.out.cell (j := 1) rfl
 have u2 := HM4.out.cell (j := 2) rfl
 go_cut [52] from 29 to 53 (fun u wx => u = .bool false ∧ Hid (Below w.heap.size w wx) ∧ Hid (Blk wx b3 #[.int .i64 k, .int .i64 v, .int .i64 d] 39))
 case first =>
  by_cases he : e1 = 0
  ·subst he
   have HO0 := Lib.hid (HO1.out rfl)
   go_wp2_with (first | (go_at_call 31; refine (HOR.out _).mono ?_; rintro e w5 ⟨rfl, hb⟩; obtain ⟨W5, hW5⟩ : ∃ W, w5 = W := ⟨_, rfl⟩; rw [hW5] at hb ⊢; clear hW5; have HB5 := Lib.hid (keepBelow HB4.out hb); have HK5 := Lib.hid (HK4.out.below hb); have HL5 := Lib.hid (HL4.out.below hb); clear hb; have p0 := HL5.out.cell (j := 0) rfl; have p1 := HL5.out.cell (j := 1) rfl; have p2 := HL5.out.cell (j := 2) rfl) | (go_at_call 30; refine (HO0.out _ HB5.out).mono ?_; rintro e w6 ⟨rfl, hb6⟩) | fail)
   go_meet
   exact ⟨rfl, keepBelow HB5.out hb6, HK5.out.below hb6⟩
  ·have g0 : (e1 == 0) = false := by simpa using he
   clear he
   go_wp2_with (first | (go_at_call 31; refine (HOR.out _).mono ?_; rintro e w5 ⟨rfl, hb5⟩) | fail)
   go_meet
   exact ⟨rfl, keepBelow HB4.out hb5, HK4.out.below hb5⟩
 case rest =>
 obtain ⟨rfl, HB5, HK5⟩ := hcut
 generalize wc = W5 at *
 obtain ⟨q, hq⟩ : ∃ q, onB ⟨k, v, d⟩ = q := ⟨_, rfl⟩
 rw [hq] at HVO HNI HOK
 clear hq
 have p0 := HK5.out.cell (j := 0) rfl
 have p1 := HK5.out.cell (j := 1) rfl
 have p2 := HK5.out.cell (j := 2) rfl
 cases q with
 | false =>
  have hT0 : T.toList = [] := by have := HNI.out.2 rfl; exact (ld_ne _ _).2 this
  have hT1 : T.toList.isEmpty = true := by rw [hT0]; rfl
  have hT2 : (T.toList == []) = true := by rw [hT0]; rfl
  go_wp2_with (first | (go_at_call 32; refine (HVO.out _).mono ?_; rintro e w6 ⟨rfl, hb6⟩) | fail)
  go_ret
  exact ⟨rfl, keepBelow HB5.out hb6⟩
 | true =>
  have hT0 : ¬T.toList = [] := fun h => by have := HNI.out.1 ((ld_ne _ _).1 h); exact absurd this (by simp)
  have hT1 : T.toList.isEmpty = false := by simpa using hT0
  have hT2 : (T.toList == []) = false := by simpa using hT0
  have HO2 : Hid (∀ W, Below w.heap.size w W → Calls Tryz.prog 28 #[.string T] W fun e w' => e = .returned (.tuple #[.agg #[.int .i64 k, .int .i64 v, .int .i64 d], .int .i64 0]) ∧ Below W.heap.size W w') := Lib.hid fun W hW => by
   have q := on_any T (by have := (HOK.out rfl).2; omega) W (HG.out.below hW)
   rw [(HOK.out rfl).1] at q
   exact q
  go_upto_region 13 with (first | (go_at_call 28; refine (HO2.out _ HB5.out).mono ?_; rintro e w6 ⟨rfl, hb⟩; obtain ⟨W6, hW6⟩ : ∃ W, w6 = W := ⟨_, rfl⟩; rw [hW6] at hb ⊢; clear hW6; have HB6 := Lib.hid (keepBelow HB5.out hb); have HK6 := Lib.hid (HK5.out.below hb); clear hb) | fail)
  obtain ⟨b10, hb10⟩ : ∃ b, W6.heap.size = b := ⟨_, rfl⟩
  obtain ⟨V, hV⟩ : ∃ V, W6.alloc (.cells #[.int .i64 k, .int .i64 v, .int .i64 d] 39) = V := ⟨_, rfl⟩
  have HBV : Hid (Below W6.heap.size W6 V) := Lib.hid (by rw [← hV]; exact (Below.refl _ _).alloc (Nat.le_refl _) _)
  have HV10 : Hid (Blk V b10 #[.int .i64 k, .int .i64 v, .int .i64 d] 39) := Lib.hid (by rw [← hV, ← hb10]; exact Blk.new _ _ _)
  have HK7 := Lib.hid (HK6.out.below HBV.out)
  try rw [hV]
  try rw [hb10]
  clear hV hb10
  have q0 := HV10.out.cell (j := 0) rfl
  have q1 := HV10.out.cell (j := 1) rfl
  have q2 := HV10.out.cell (j := 2) rfl
  have r0 := HK7.out.cell (j := 0) rfl
  have r1 := HK7.out.cell (j := 1) rfl
  have r2 := HK7.out.cell (j := 2) rfl
  go_wp2_with fail
  go_ret
  exact ⟨rfl, keepBelow HB6.out HBV.out⟩
end Go.Proofs.YtlbglinpgjlbkaaGreatDoor
