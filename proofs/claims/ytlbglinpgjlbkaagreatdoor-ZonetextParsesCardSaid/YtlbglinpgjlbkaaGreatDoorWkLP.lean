import Derived.Test.YtlbglinpgjlbkaaGreatDoorWkP5
import Derived.Test.YtlbglinpgjlbkaaGreatDoorWkL0
import Derived.Test.YtlbglinpgjlbkaaGreatDoorWkS1
/- Zone texts: the law Parses. Printed by gen_lp.py. -/
namespace Go.Proofs.YtlbglinpgjlbkaaGreatDoor
open Go.RowKit Wk

def ParQ (S : SrT) (pa pc er : Int) (w : World) (e : Ending) (w' : World) : Prop :=
 ∃ rv zv lv Z, e = .returned (.tuple #[.agg #[rv, zv, lv], .agg #[.int .i64 pa, .int .i64 pc], .int .i64 er]) ∧ RdSr w' rv zv lv S Z ∧ CapV rv ∧ CapV zv ∧ CapV lv ∧ Below w.heap.size w w'
set_option maxRecDepth 100000 in
set_option maxHeartbeats 8000000 in
theorem law_Parses (s : ByteArray) (w : World) (hg : Glob w) :
  Calls Tryz.prog 3 #[.string s] w fun e w' => e = .returned (.bool true) ∧ Below w.heap.size w w' := by
 have HG := Lib.hid hg
 clear hg
 have HAW : Hid (∀ W, Below w.heap.size w W → Calls Tryz.prog 11 #[] W fun e w' => e = .returned (.bool true) ∧ Below W.heap.size W w') := Lib.hid fun W hW => awake_any W (HG.out.below hW)
 go_enter Tryz.func3, Tryz.ntmps3
 go_upto_region 3 with (first | (go_at_call 11; refine (HAW.out _ (Below.refl _ _)).mono ?_; rintro e w1 ⟨rfl, hb⟩; obtain ⟨W1, hW1⟩ : ∃ W, w1 = W := ⟨_, rfl⟩; rw [hW1] at hb ⊢; clear hW1; have HB1 := Lib.hid hb; clear hb) | fail)
 by_cases hs : (3000 : Int) < s.size
 ·go_wp2_with fail
  go_ret
  exact ⟨rfl, HB1.out⟩
 obtain ⟨R, hR⟩ : ∃ R, parseM (bsO s) = R := ⟨_, rfl⟩
 obtain ⟨S, ⟨pa, pc⟩, er⟩ := R
 have HPA : Hid (∀ W, Below w.heap.size w W → Calls Tryz.prog 12 #[.string s] W (ParQ S pa pc er W)) := Lib.hid fun W hW => by
  have q := parse_any s (by omega) W (HG.out.below hW)
  unfold ParP at q
  rw [hR] at q
  exact q
 have HP9 : Hid (∀ W, Below w.heap.size w W → Calls Tryz.prog 13 #[.string s] W (ParQ S pa pc er W)) := Lib.hid fun W hW => by
  have q := parse19_any s (by omega) W (HG.out.below hW)
  unfold ParP at q
  rw [hR] at q
  exact q
 clear hR
 go_upto_region 6 with (first | (go_at_call 12; refine (HPA.out _ HB1.out).mono ?_; rintro e w2 ⟨rv2, zv2, lv2, Z2, rfl, hr2, cr2, cz2, cl2, hb2⟩; obtain ⟨W2, hW2⟩ : ∃ W, w2 = W := ⟨_, rfl⟩; rw [hW2] at hr2 hb2 ⊢; clear hW2; obtain ⟨ra2, rc2, rfl⟩ := hr2.ru.form; obtain ⟨za2, zc2, rfl⟩ := hr2.zo.row.form; obtain ⟨la2, lc2, rfl⟩ := hr2.lk.form; have HR2 := Lib.hid hr2; have HB2 := Lib.hid hb2; have HCZ2 := Lib.hid (And.intro cr2 (And.intro cz2 cl2)); clear hr2 hb2 cr2 cz2 cl2) | fail)
 obtain ⟨b3, hb3⟩ : ∃ b, W2.heap.size = b := ⟨_, rfl⟩
 obtain ⟨b4, hb4⟩ : ∃ b, W2.heap.size + 1 = b := ⟨_, rfl⟩
 obtain ⟨Y2, hY2⟩ : ∃ Y, (W2.alloc (.cells #[.slice ra2 S.ru.length rc2, .slice za2 Z2.length zc2, .slice la2 S.lk.length lc2] 27)).alloc (.cells #[.int .i64 pa, .int .i64 pc] 29) = Y := ⟨_, rfl⟩
 have HBY2 : Hid (Below W2.heap.size W2 Y2) := Lib.hid (by rw [← hY2]; exact ((Below.refl _ _).alloc (Nat.le_refl _) _).alloc (by simp) _)
 have HS2 : Hid (Blk Y2 b3 #[.slice ra2 S.ru.length rc2, .slice za2 Z2.length zc2, .slice la2 S.lk.length lc2] 27) := Lib.hid (by rw [← hY2, ← hb3]; exact (Blk.new _ _ _).below ((Below.refl _ _).alloc (Nat.le_refl _) _))
 have HP2 : Hid (Blk Y2 b4 #[.int .i64 pa, .int .i64 pc] 29) := Lib.hid (by
  rw [← hY2, ← hb4]
  have q := Blk.new (W2.alloc (.cells #[.slice ra2 S.ru.length rc2, .slice za2 Z2.length zc2, .slice la2 S.lk.length lc2] 27)) #[.int .i64 pa, .int .i64 pc] 29
  simpa using q)
 try rw [hY2]
 try rw [hb4]
 try rw [hb3]
 clear hY2 hb3 hb4
 have HBZ2 := Lib.hid (keepBelow (keepBelow HB1.out HB2.out) HBY2.out)
 go_upto_region 7 with (first | (go_at_call 13; refine (HP9.out _ HBZ2.out).mono ?_; rintro e w3 ⟨rv3, zv3, lv3, Z3, rfl, hr3, cr3, cz3, cl3, hb3⟩; obtain ⟨W3, hW3⟩ : ∃ W, w3 = W := ⟨_, rfl⟩; rw [hW3] at hr3 hb3 ⊢; clear hW3; obtain ⟨ra3, rc3, rfl⟩ := hr3.ru.form; obtain ⟨za3, zc3, rfl⟩ := hr3.zo.row.form; obtain ⟨la3, lc3, rfl⟩ := hr3.lk.form; have HR3 := Lib.hid hr3; have HB3 := Lib.hid hb3; have HCZ3 := Lib.hid (And.intro cr3 (And.intro cz3 cl3)); clear hr3 hb3 cr3 cz3 cl3) | fail)
 obtain ⟨b6, hb6⟩ : ∃ b, W3.heap.size = b := ⟨_, rfl⟩
 obtain ⟨b7, hb7⟩ : ∃ b, W3.heap.size + 1 = b := ⟨_, rfl⟩
 obtain ⟨Y3, hY3⟩ : ∃ Y, (W3.alloc (.cells #[.slice ra3 S.ru.length rc3, .slice za3 Z3.length zc3, .slice la3 S.lk.length lc3] 27)).alloc (.cells #[.int .i64 pa, .int .i64 pc] 29) = Y := ⟨_, rfl⟩
 have HBY3 : Hid (Below W3.heap.size W3 Y3) := Lib.hid (by rw [← hY3]; exact ((Below.refl _ _).alloc (Nat.le_refl _) _).alloc (by simp) _)
 have HS3 : Hid (Blk Y3 b6 #[.slice ra3 S.ru.length rc3, .slice za3 Z3.length zc3, .slice la3 S.lk.length lc3] 27) := Lib.hid (by rw [← hY3, ← hb6]; exact (Blk.new _ _ _).below ((Below.refl _ _).alloc (Nat.le_refl _) _))
 have HP3 : Hid (Blk Y3 b7 #[.int .i64 pa, .int .i64 pc] 29) := Lib.hid (by
  rw [← hY3, ← hb7]
  have q := Blk.new (W3.alloc (.cells #[.slice ra3 S.ru.length rc3, .slice za3 Z3.length zc3, .slice la3 S.lk.length lc3] 27)) #[.int .i64 pa, .int .i64 pc] 29
  simpa using q)
 try rw [hY3]
 try rw [hb7]
 try rw [hb6]
 clear hY3 hb6 hb7
 have HBZ3 := Lib.hid (keepBelow (keepBelow HBZ2.out HB3.out) HBY3.out)
 have x3 := Lib.hid ((HS2.out.below HB3.out).below HBY3.out)
 have x4 := Lib.hid ((HP2.out.below HB3.out).below HBY3.out)
 have HSM : Hid (Calls Tryz.prog 14 #[.agg #[.slice ra2 S.ru.length rc2, .slice za2 Z2.length zc2, .slice la2 S.lk.length lc2], .agg #[.slice ra3 S.ru.length rc3, .slice za3 Z3.length zc3, .slice la3 S.lk.length lc3]] Y3 fun e w' => e = .returned (.bool true) ∧ Below Y3.heap.size Y3 w') := Lib.hid (same_true _ _ _ _ _ _ S Z2 Z3 Y3 (((HR2.out.below HBY2.out).below HB3.out).below HBY3.out) (HR3.out.below HBY3.out))
 have a0 := x3.out.cell (j := 0) rfl
 have a1 := x3.out.cell (j := 1) rfl
 have a2 := x3.out.cell (j := 2) rfl
 have c0 := HS3.out.cell (j := 0) rfl
 have c1 := HS3.out.cell (j := 1) rfl
 have c2 := HS3.out.cell (j := 2) rfl
 go_wp2_with (first | (go_at_call 14; refine HSM.out.mono ?_; rintro e w8 ⟨rfl, hb8⟩; obtain ⟨W8, hW8⟩ : ∃ W, w8 = W := ⟨_, rfl⟩; rw [hW8] at hb8 ⊢; clear hW8; have HB8 := Lib.hid hb8; clear hb8; have d0 := (x4.out.below HB8.out).cell (j := 0) rfl; have d1 := (x4.out.below HB8.out).cell (j := 1) rfl; have e0 := (HP3.out.below HB8.out).cell (j := 0) rfl; have e1 := (HP3.out.below HB8.out).cell (j := 1) rfl) | fail)
 go_ret
 exact ⟨ret_bool (by simp), keepBelow HBZ3.out HB8.out⟩
end Go.Proofs.YtlbglinpgjlbkaaGreatDoor
