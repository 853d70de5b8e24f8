import Derived.Test.YtlbglinpgjlbkaaGreatDoorWkLQ
import Derived.Test.YtlbglinpgjlbkaaGreatDoorWkL0
import Derived.Test.YtlbglinpgjlbkaaGreatDoorWkS1
import Derived.Test.YtlbglinpgjlbkaaGreatDoorWkJ4
/- Zone texts: the law Canonical. Printed by gen_lcn.py. -/
namespace Go.Proofs.YtlbglinpgjlbkaaGreatDoor
open Go.RowKit Wk

theorem parse_err {t : Bs} {s : SrT} {p : Nat × Nat} {e : Int} (h : parseM t = (s, p, e)) (he : e ≠ 0) : s = sr0 := by
 unfold parseM at h
 by_cases h1 : (linesM t).2.2 ≠ 0
 ·rw [if_pos h1] at h
  injection h with h _
  exact h.symm
 rw [if_neg h1] at h
 cases hr : readS (linesM t).1 sr0 with
 | inr e =>
  rw [hr] at h
  injection h with h _
  exact h.symm
 | inl s' =>
  rw [hr] at h
  simp only at h
  split at h
  ·injection h with h _
   exact h.symm
  ·split at h
   ·injection h with h _
    exact h.symm
   ·injection h with _ h
    injection h with _ h
    exact absurd h.symm he
theorem sz_valid {s : SrT} (h : validB s = true) : SzS s := by
 obtain ⟨-, -, h1, h2, h3, -⟩ := valid_parts h
 refine ⟨fun r hr => ?_, fun z hz => ⟨?_, fun l hl => ?_⟩, fun x hx => ?_⟩
 ·obtain ⟨p1, -, -, -, -, -, p7⟩ := ru_parts (h1 r hr)
  have := (name_wd p1).2
  have := (letter_wd p7).2
  unfold dashT at this
  refine ⟨by omega, ?_⟩
  split at this
  ·rename_i e; rw [e]; exact Nat.zero_le _
  ·omega
 ·have := (name_wd (zo_parts (h2 z hz)).1).2
  omega
 ·obtain ⟨-, -, -, hl2⟩ := zo_parts (h2 z hz)
  obtain ⟨i, hi, e⟩ := List.mem_iff_getElem.1 hl
  obtain ⟨-, q2, q3, -, -, -⟩ := li_parts ((hl2 i hi).1)
  rw [e] at q2 q3
  have := (fmt_wd q2).2
  refine ⟨?_, by omega⟩
  by_cases e2 : l.ru = []
  ·rw [e2]; exact Nat.zero_le _
  ·have := (name_wd (q3 e2).1).2
   omega
 ·have := (name_wd (h3 x hx).1).2
  have := (name_wd (h3 x hx).2).2
  exact ⟨by omega, by omega⟩
set_option maxRecDepth 100000 in
set_option maxHeartbeats 8000000 in
theorem law_Canonical (s : ByteArray) (w : World) (hg : Glob w) (hT : TabP w) :
  Calls Tryz.prog 8 #[.string s] w fun e w' => e = .returned (.bool true) ∧ Below w.heap.size w w' := by
 have HG := Lib.hid hg
 have HT := Lib.hid hT
 clear hg hT
 have HAW : Hid (∀ W, Below w.heap.size w W → Calls Tryz.prog 11 #[] W fun e w' => e = .returned (.bool true) ∧ Below W.heap.size W w') := Lib.hid fun W hW => awake_any W (HG.out.below hW)
 go_enter Tryz.func8, Tryz.ntmps8
 go_upto_region 3 with (first | (go_at_call 11; refine (HAW.out _ (Below.refl _ _)).mono ?_; rintro e w1 ⟨rfl, hb⟩; obtain ⟨W1, hW1⟩ : ∃ W, w1 = W := ⟨_, rfl⟩; rw [hW1] at hb ⊢; clear hW1; have HB1 := Lib.hid hb; clear hb) | fail)
 by_cases hs : (3000 : Int) < s.size
 ·go_wp2_with fail
  go_ret
  exact ⟨rfl, HB1.out⟩
 obtain ⟨R, hR⟩ : ∃ R, parseM (bsO s) = R := ⟨_, rfl⟩
 obtain ⟨S, ⟨pa, pc⟩, er⟩ := R
 have HPA : Hid (∀ W, Below w.heap.size w W → Calls Tryz.prog 12 #[.string s] W (ParQ S pa pc er W)) := Lib.hid fun W hW => by
  have q := parse_any s (by omega) W (HG.out.below hW)
  unfold ParP at q
  rw [hR] at q
  exact q
 have HPE : Hid (er ≠ 0 → S = sr0) := Lib.hid fun h => parse_err hR h
 have HCN : Hid (er = 0 → validB S = true ∧ textM S = (flatT (wordsT S), 0) ∧ parseM (flatT (wordsT S)) = (S, (0, 0), 0) ∧ (flatT (wordsT S)).length ≤ 65536) := Lib.hid fun h => canon (p := (pa, pc)) (by rw [hR, h]) (by rw [bs_len]; omega)
 clear hR
 go_upto_region 6 with (first | (go_at_call 12; refine (HPA.out _ HB1.out).mono ?_; rintro e w2 ⟨rv2, zv2, lv2, Z2, rfl, hr2, cr2, cz2, cl2, hb2⟩; obtain ⟨W2, hW2⟩ : ∃ W, w2 = W := ⟨_, rfl⟩; rw [hW2] at hr2 hb2 ⊢; clear hW2; obtain ⟨ra2, rc2, rfl⟩ := hr2.ru.form; obtain ⟨za2, zc2, rfl⟩ := hr2.zo.row.form; obtain ⟨la2, lc2, rfl⟩ := hr2.lk.form; have HR2 := Lib.hid hr2; have HB2 := Lib.hid hb2; have HCZ2 := Lib.hid (And.intro cr2 (And.intro cz2 cl2)); clear hr2 hb2 cr2 cz2 cl2) | fail)
 obtain ⟨b3, hb3⟩ : ∃ b, W2.heap.size = b := ⟨_, rfl⟩
 obtain ⟨b4, hb4⟩ : ∃ b, W2.heap.size + 1 = b := ⟨_, rfl⟩
 obtain ⟨Y2, hY2⟩ : ∃ Y, (W2.alloc (.cells #[.slice ra2 S.ru.length rc2, .slice za2 Z2.length zc2, .slice la2 S.lk.length lc2] 27)).alloc (.cells #[.int .i64 pa, .int .i64 pc] 29) = Y := ⟨_, rfl⟩
 have HBY2 : Hid (Below W2.heap.size W2 Y2) := Lib.hid (by rw [← hY2]; exact ((Below.refl _ _).alloc (Nat.le_refl _) _).alloc (by simp) _)
 have HS2 : Hid (Blk Y2 b3 #[.slice ra2 S.ru.length rc2, .slice za2 Z2.length zc2, .slice la2 S.lk.length lc2] 27) := Lib.hid (by rw [← hY2, ← hb3]; exact (Blk.new _ _ _).below ((Below.refl _ _).alloc (Nat.le_refl _) _))
 have HP2 : Hid (Blk Y2 b4 #[.int .i64 pa, .int .i64 pc] 29) := Lib.hid (by
  rw [← hY2, ← hb4]
  have q := Blk.new (W2.alloc (.cells #[.slice ra2 S.ru.length rc2, .slice za2 Z2.length zc2, .slice la2 S.lk.length lc2] 27)) #[.int .i64 pa, .int .i64 pc] 29
  simpa using q)
 try rw [hY2]
 try rw [hb4]
 try rw [hb3]
 clear hY2 hb3 hb4
 have HBZ2 := Lib.hid (keepBelow (keepBelow HB1.out HB2.out) HBY2.out)
 have a0 := HS2.out.cell (j := 0) rfl
 have a1 := HS2.out.cell (j := 1) rfl
 have a2 := HS2.out.cell (j := 2) rfl
 by_cases he : er = 0
 ·subst he
  have HC := Lib.hid (HCN.out rfl)
  obtain ⟨TT, hTT⟩ : ∃ D : ByteArray, ⟨(flatT (wordsT S)).toArray⟩ = D := ⟨_, rfl⟩
  have HTT : Hid (bsO TT = flatT (wordsT S)) := Lib.hid (by rw [← hTT])
  have HTX : Hid (∀ rv zv lv Z W, RdSr W rv zv lv S Z → Below w.heap.size w W → CapV zv → CapV lv → Calls Tryz.prog 33 #[.agg #[rv, zv, lv]] W fun e w' => e = .returned (.tuple #[.string TT, .int .i64 0]) ∧ Below W.heap.size W w') := Lib.hid fun rv zv lv Z W hr hW hz hl => by
   have q := text_any rv zv lv S Z W hr (sz_valid HC.out.1) (HG.out.below hW) (HT.out.below hW) hz hl
   rw [HC.out.2.1, hTT] at q
   exact q
  have HPB : Hid (∀ W, Below w.heap.size w W → Calls Tryz.prog 12 #[.string TT] W (ParQ S 0 0 0 W)) := Lib.hid fun W hW => by
   have q := parse_any TT (by have := HC.out.2.2.2; rw [← HTT.out, bs_len] at this; omega) W (HG.out.below hW)
   unfold ParP at q
   rw [HTT.out, HC.out.2.2.1] at q
   exact q
  have HVA : Hid (∀ rv zv lv Z W, RdSr W rv zv lv S Z → Below w.heap.size w W → CapV zv → CapV lv → Calls Tryz.prog 35 #[.agg #[rv, zv, lv]] W fun e w' => e = .returned (.bool true) ∧ Below W.heap.size W w') := Lib.hid fun rv zv lv Z W hr hW hz hl => by
   have q := valid_any rv zv lv S Z W hr (sz_valid HC.out.1) (HG.out.below hW) hz hl
   rw [HC.out.1] at q
   exact q
  clear hTT HCN HPE
  have HR2' := Lib.hid (HR2.out.below HBY2.out)
  go_upto_region 9 with (first | (go_at_call 33; refine (HTX.out _ _ _ _ _ HR2'.out HBZ2.out HCZ2.out.2.1 HCZ2.out.2.2).mono ?_; rintro e w4 ⟨rfl, hb4⟩; obtain ⟨W4, hW4⟩ : ∃ W, w4 = W := ⟨_, rfl⟩; rw [hW4] at hb4 ⊢; clear hW4; have HB4 := Lib.hid hb4; clear hb4) | fail)
  have HB4w := Lib.hid (keepBelow HBZ2.out HB4.out)
  go_upto_region 10 with (first | (go_at_call 12; refine (HPB.out _ HB4w.out).mono ?_; rintro e w3 ⟨rv3, zv3, lv3, Z3, rfl, hr3, cr3, cz3, cl3, hb3⟩; obtain ⟨W3, hW3⟩ : ∃ W, w3 = W := ⟨_, rfl⟩; rw [hW3] at hr3 hb3 ⊢; clear hW3; obtain ⟨ra3, rc3, rfl⟩ := hr3.ru.form; obtain ⟨za3, zc3, rfl⟩ := hr3.zo.row.form; obtain ⟨la3, lc3, rfl⟩ := hr3.lk.form; have HR3 := Lib.hid hr3; have HB3 := Lib.hid hb3; have HCZ3 := Lib.hid (And.intro cr3 (And.intro cz3 cl3)); clear hr3 hb3 cr3 cz3 cl3) | fail)
  obtain ⟨b8, hb8⟩ : ∃ b, W3.heap.size = b := ⟨_, rfl⟩
  obtain ⟨b9, hb9⟩ : ∃ b, W3.heap.size + 1 = b := ⟨_, rfl⟩
  obtain ⟨Y3, hY3⟩ : ∃ Y, (W3.alloc (.cells #[.slice ra3 S.ru.length rc3, .slice za3 Z3.length zc3, .slice la3 S.lk.length lc3] 27)).alloc (.cells #[.int .i64 0, .int .i64 0] 29) = Y := ⟨_, rfl⟩
  have HBY3 : Hid (Below W3.heap.size W3 Y3) := Lib.hid (by rw [← hY3]; exact ((Below.refl _ _).alloc (Nat.le_refl _) _).alloc (by simp) _)
  have HS3 : Hid (Blk Y3 b8 #[.slice ra3 S.ru.length rc3, .slice za3 Z3.length zc3, .slice la3 S.lk.length lc3] 27) := Lib.hid (by rw [← hY3, ← hb8]; exact (Blk.new _ _ _).below ((Below.refl _ _).alloc (Nat.le_refl _) _))
  have HP3 : Hid (Blk Y3 b9 #[.int .i64 0, .int .i64 0] 29) := Lib.hid (by
   rw [← hY3, ← hb9]
   have q := Blk.new (W3.alloc (.cells #[.slice ra3 S.ru.length rc3, .slice za3 Z3.length zc3, .slice la3 S.lk.length lc3] 27)) #[.int .i64 0, .int .i64 0] 29
   simpa using q)
  try rw [hY3]
  try rw [hb9]
  try rw [hb8]
  clear hY3 hb8 hb9
  have HBZ3 := Lib.hid (keepBelow (keepBelow HB4w.out HB3.out) HBY3.out)
  have c0 := HS3.out.cell (j := 0) rfl
  have c1 := HS3.out.cell (j := 1) rfl
  have c2 := HS3.out.cell (j := 2) rfl
  have HR3' := Lib.hid (HR3.out.below HBY3.out)
  go_upto_region 11 with (first | (go_at_call 33; refine (HTX.out _ _ _ _ _ HR3'.out HBZ3.out HCZ3.out.2.1 HCZ3.out.2.2).mono ?_; rintro e w5 ⟨rfl, hb5⟩; obtain ⟨W5, hW5⟩ : ∃ W, w5 = W := ⟨_, rfl⟩; rw [hW5] at hb5 ⊢; clear hW5; have HB5 := Lib.hid hb5; clear hb5) | fail)
  have HX2 := Lib.hid ((((HS2.out.below HB4.out).below HB3.out).below HBY3.out).below HB5.out)
  have HX3 := Lib.hid (HS3.out.below HB5.out)
  have HR25 := Lib.hid ((((HR2'.out.below HB4.out).below HB3.out).below HBY3.out).below HB5.out)
  have HR35 := Lib.hid (HR3'.out.below HB5.out)
  have HB5w := Lib.hid (keepBelow HBZ3.out HB5.out)
  have d0 := HX2.out.cell (j := 0) rfl
  have d1 := HX2.out.cell (j := 1) rfl
  have d2 := HX2.out.cell (j := 2) rfl
  have HSM : Hid (∀ W, Below W5.heap.size W5 W → Calls Tryz.prog 14 #[.agg #[.slice ra2 S.ru.length rc2, .slice za2 Z2.length zc2, .slice la2 S.lk.length lc2], .agg #[.slice ra3 S.ru.length rc3, .slice za3 Z3.length zc3, .slice la3 S.lk.length lc3]] W fun e w' => e = .returned (.bool true) ∧ Below W.heap.size W w') := Lib.hid fun W hW => same_true _ _ _ _ _ _ S Z2 Z3 W (HR25.out.below hW) (HR35.out.below hW)
  have htt : (TT.toList == TT.toList) = true := by simp
  go_wp2_with (first
   | (go_at_call 35; refine (HVA.out _ _ _ _ _ HR25.out HB5w.out HCZ2.out.2.1 HCZ2.out.2.2).mono ?_; rintro e w6 ⟨rfl, hb6⟩; obtain ⟨W6, hW6⟩ : ∃ W, w6 = W := ⟨_, rfl⟩; rw [hW6] at hb6 ⊢; clear hW6; have HB6 := Lib.hid hb6; clear hb6; have f0 := keepCell HB6.out d0; have f1 := keepCell HB6.out d1; have f2 := keepCell HB6.out d2; have h0 := (HX3.out.below HB6.out).cell (j := 0) rfl; have h1 := (HX3.out.below HB6.out).cell (j := 1) rfl; have h2 := (HX3.out.below HB6.out).cell (j := 2) rfl)
   | (go_at_call 14; refine (HSM.out _ HB6.out).mono ?_; rintro e w7 ⟨rfl, hb7⟩)
   | fail)
  go_ret
  exact ⟨ret_bool (by simp), keepBelow HB5w.out (keepBelow HB6.out hb7)⟩
 ·have e0 : S.ru.length = 0 := by rw [HPE.out he]; rfl
  have e1 : Z2.length = 0 := by
   have q := congrArg List.length HR2.out.zs
   rw [List.length_map, HPE.out he] at q
   exact q
  have e2 : S.lk.length = 0 := by rw [HPE.out he]; rfl
  have g0 : (er == 0) = false := by simpa using he
  have a0' : Y2.cell? ⟨b3, 0, none⟩ = some (.slice ra2 (S.ru.length) rc2) := HS2.out.cell (j := 0) rfl
  rw [e0] at a0'
  have a1' : Y2.cell? ⟨b3, 1, none⟩ = some (.slice za2 (Z2.length) zc2) := HS2.out.cell (j := 1) rfl
  rw [e1] at a1'
  have a2' : Y2.cell? ⟨b3, 2, none⟩ = some (.slice la2 (S.lk.length) lc2) := HS2.out.cell (j := 2) rfl
  rw [e2] at a2'
  clear a0 a1 a2 e0 e1 e2 he HCN HPE
  go_wp2_with fail
  go_ret
  exact ⟨rfl, HBZ2.out⟩
end Go.Proofs.YtlbglinpgjlbkaaGreatDoor
