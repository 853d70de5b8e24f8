import Derived.Test.YtlbglinpgjlbkaaGreatDoorWkLCn
import Derived.Test.YtlbglinpgjlbkaaGreatDoorWkSmz
import Derived.Test.YtlbglinpgjlbkaaGreatDoorWkCc
import Derived.Test.YtlbglinpgjlbkaaGreatDoorWkQb
import Derived.Test.YtlbglinpgjlbkaaGreatDoorWkRgn
/- Zone texts: the law Divides. Printed by gen_ldv.py. No conditions. -/
namespace Go.Proofs.YtlbglinpgjlbkaaGreatDoor
open Go.RowKit Wk

theorem sz_cat {s t : SrT} (h1 : SzS s) (h2 : SzS t) : SzS (catS s t) := by
 refine ⟨fun r hr => ?_, fun z hz => ?_, fun x hx => ?_⟩
 ·rcases List.mem_append.1 hr with h | h
  ·exact h1.ru r h
  ·exact h2.ru r h
 ·rcases List.mem_append.1 hz with h | h
  ·exact h1.zo z h
  ·exact h2.zo z h
 ·rcases List.mem_append.1 hx with h | h
  ·exact h1.lk x h
  ·exact h2.lk x h
theorem valid_bnd {s : SrT} (h : validB s = true) : s.ru.length ≤ 300000 ∧ s.zo.length ≤ 300000 ∧ s.lk.length ≤ 300000 := by
 obtain ⟨h1, h2, -⟩ := valid_parts h
 omega
theorem one_ru (z : RuT) : ∀ u ∈ flRu z, u.oneCell' = true := by
 intro u hu
 simp [flRu] at hu
 rcases hu with rfl | rfl | rfl | rfl | rfl | rfl | rfl | rfl | rfl | rfl | rfl <;> rfl
theorem one_lk (z : LkT) : ∀ u ∈ flLk z, u.oneCell' = true := by
 intro u hu
 simp [flLk] at hu
 rcases hu with rfl | rfl <;> rfl
theorem one_zk {w : World} {v : Value} {Z : List ZkT} (h : RdZk w v Z) : ∀ z ∈ Z, ∀ u ∈ flZk z, u.oneCell' = true := by
 intro z hz u hu
 obtain ⟨i, hi, e⟩ := List.mem_iff_getElem.1 hz
 have q := h.li i hi
 rw [List.getD_eq_getElem?_getD, List.getElem?_eq_getElem hi, Option.getD_some, e] at q
 obtain ⟨a, c, e2⟩ := q.form
 simp [flZk] at hu
 rcases hu with rfl | rfl
 ·rfl
 ·rw [e2]
  rfl
theorem rdzk_cat {w : World} {v v1 v2 : Value} {Z1 Z2 : List ZkT} (h1 : RdZk w v1 Z1) (h2 : RdZk w v2 Z2) (h : RdG 2 flZk zk0 w v (Z1 ++ Z2)) : RdZk w v (Z1 ++ Z2) := by
 refine ⟨h, fun i hi => ?_⟩
 by_cases q : i < Z1.length
 ·have e : (Z1 ++ Z2).getD i zk0 = Z1.getD i zk0 := by rw [List.getD_eq_getElem?_getD, List.getElem?_append_left q, ← List.getD_eq_getElem?_getD]
  rw [e]
  exact h1.li i q
 ·have e : (Z1 ++ Z2).getD i zk0 = Z2.getD (i - Z1.length) zk0 := by rw [List.getD_eq_getElem?_getD, List.getElem?_append_right (by omega), ← List.getD_eq_getElem?_getD]
  rw [e]
  exact h2.li _ (by rw [List.length_append] at hi; omega)
theorem cap_own {w : World} {B sz : Nat} {T : TypeId} {α : Type} {fl : α → List Value} {v : Value} {L : List α} (h : OwnG T sz fl w B v L) : CapV v := by
 intro a n c e
 rcases h.2 with ⟨rfl, _⟩ | ⟨g, cap, cur, rfl, _, _, hc, _⟩
 ·cases e; exact Nat.le_refl _
 ·cases e; exact hc
set_option maxRecDepth 100000 in
set_option maxHeartbeats 16000000 in
theorem law_Divides (a b : ByteArray) (w : World) (hg : Glob w) :
  Calls Tryz.prog 4 #[.string a, .string b] w fun e w' => e = .returned (.bool true) ∧ Below w.heap.size w w' := by
 have HG := Lib.hid hg
 clear hg
 have HAW : Hid (∀ W, Below w.heap.size w W → Calls Tryz.prog 11 #[] W fun e w' => e = .returned (.bool true) ∧ Below W.heap.size W w') := Lib.hid fun W hW => awake_any W (HG.out.below hW)
 go_enter Tryz.func4, Tryz.ntmps4
 go_upto_region 3 with (first | (go_at_call 11; refine (HAW.out _ (Below.refl _ _)).mono ?_; rintro e w1 ⟨rfl, hb⟩; obtain ⟨W1, hW1⟩ : ∃ W, w1 = W := ⟨_, rfl⟩; rw [hW1] at hb ⊢; clear hW1; have HB1 := Lib.hid hb; clear hb) | fail)
 by_cases hsa : (1500 : Int) < a.size
 ·go_wp2_with fail
  go_ret
  exact ⟨rfl, HB1.out⟩
 by_cases hsb : (1500 : Int) < b.size
 ·go_wp2_with fail
  go_ret
  exact ⟨rfl, HB1.out⟩
 obtain ⟨RA, hRA⟩ : ∃ R, parseM (bsO a) = R := ⟨_, rfl⟩
 obtain ⟨S, ⟨pa, pc⟩, ea⟩ := RA
 have HPA : Hid (∀ W, Below w.heap.size w W → Calls Tryz.prog 12 #[.string a] W (ParQ S pa pc ea W)) := Lib.hid fun W hW => by
  have q := parse_any a (by omega) W (HG.out.below hW)
  unfold ParP at q
  rw [hRA] at q
  exact q
 obtain ⟨RB, hRB⟩ : ∃ R, parseM (bsO b) = R := ⟨_, rfl⟩
 obtain ⟨T, ⟨qa, qc⟩, eb⟩ := RB
 have HPB : Hid (∀ W, Below w.heap.size w W → Calls Tryz.prog 12 #[.string b] W (ParQ T qa qc eb W)) := Lib.hid fun W hW => by
  have q := parse_any b (by omega) W (HG.out.below hW)
  unfold ParP at q
  rw [hRB] at q
  exact q
 have HDI : Hid (ea = 0 → eb = 0 → parseM (bsO a ++ 10 :: bsO b) = if (checkM (catS S T)).2 ≠ 0 then (sr0, (0, 0), (checkM (catS S T)).2) else (catS S T, (0, 0), 0)) := Lib.hid fun h1 h2 => by
  subst h1
  subst h2
  exact divides_ok hRA hRB (by rw [bs_len, bs_len]; omega)
 have HVS : Hid (ea = 0 → validB S = true) := Lib.hid fun h => (parse_inv (by rw [hRA, h])).2.2.2.2
 have HVT : Hid (eb = 0 → validB T = true) := Lib.hid fun h => (parse_inv (by rw [hRB, h])).2.2.2.2
 clear hRA hRB
 go_upto_region 6 with (first | (go_at_call 12; refine (HPA.out _ HB1.out).mono ?_; rintro e w2 ⟨rv2, zv2, lv2, Z2, rfl, hr2, cr2, cz2, cl2, hb2⟩; obtain ⟨W2, hW2⟩ : ∃ W, w2 = W := ⟨_, rfl⟩; rw [hW2] at hr2 hb2 ⊢; clear hW2; obtain ⟨ra2, rc2, rfl⟩ := hr2.ru.form; obtain ⟨za2, zc2, rfl⟩ := hr2.zo.row.form; obtain ⟨la2, lc2, rfl⟩ := hr2.lk.form; have HR2 := Lib.hid hr2; have HB2 := Lib.hid hb2; have HCZ2 := Lib.hid (And.intro cr2 (And.intro cz2 cl2)); clear hr2 hb2 cr2 cz2 cl2) | fail)
 obtain ⟨b5, hb5⟩ : ∃ b, W2.heap.size = b := ⟨_, rfl⟩
 obtain ⟨b6, hb6⟩ : ∃ b, W2.heap.size + 1 = b := ⟨_, rfl⟩
 obtain ⟨Y2, hY2⟩ : ∃ Y, (W2.alloc (.cells #[.slice ra2 S.ru.length rc2, .slice za2 Z2.length zc2, .slice la2 S.lk.length lc2] 27)).alloc (.cells #[.int .i64 pa, .int .i64 pc] 29) = Y := ⟨_, rfl⟩
 have HBY2 : Hid (Below W2.heap.size W2 Y2) := Lib.hid (by rw [← hY2]; exact ((Below.refl _ _).alloc (Nat.le_refl _) _).alloc (by simp) _)
 have HS2 : Hid (Blk Y2 b5 #[.slice ra2 S.ru.length rc2, .slice za2 Z2.length zc2, .slice la2 S.lk.length lc2] 27) := Lib.hid (by rw [← hY2, ← hb5]; exact (Blk.new _ _ _).below ((Below.refl _ _).alloc (Nat.le_refl _) _))
 have HP2 : Hid (Blk Y2 b6 #[.int .i64 pa, .int .i64 pc] 29) := Lib.hid (by
  rw [← hY2, ← hb6]
  have q := Blk.new (W2.alloc (.cells #[.slice ra2 S.ru.length rc2, .slice za2 Z2.length zc2, .slice la2 S.lk.length lc2] 27)) #[.int .i64 pa, .int .i64 pc] 29
  simpa using q)
 try rw [hY2]
 try rw [hb6]
 try rw [hb5]
 clear hY2 hb5 hb6
 have HBZ2 := Lib.hid (keepBelow (keepBelow HB1.out HB2.out) HBY2.out)
 go_upto_region 7 with (first | (go_at_call 12; refine (HPB.out _ HBZ2.out).mono ?_; rintro e w3 ⟨rv3, zv3, lv3, Z3, rfl, hr3, cr3, cz3, cl3, hb3⟩; obtain ⟨W3, hW3⟩ : ∃ W, w3 = W := ⟨_, rfl⟩; rw [hW3] at hr3 hb3 ⊢; clear hW3; obtain ⟨ra3, rc3, rfl⟩ := hr3.ru.form; obtain ⟨za3, zc3, rfl⟩ := hr3.zo.row.form; obtain ⟨la3, lc3, rfl⟩ := hr3.lk.form; have HR3 := Lib.hid hr3; have HB3 := Lib.hid hb3; have HCZ3 := Lib.hid (And.intro cr3 (And.intro cz3 cl3)); clear hr3 hb3 cr3 cz3 cl3) | fail)
 obtain ⟨b8, hb8⟩ : ∃ b, W3.heap.size = b := ⟨_, rfl⟩
 obtain ⟨b9, hb9⟩ : ∃ b, W3.heap.size + 1 = b := ⟨_, rfl⟩
 obtain ⟨Y3, hY3⟩ : ∃ Y, (W3.alloc (.cells #[.slice ra3 T.ru.length rc3, .slice za3 Z3.length zc3, .slice la3 T.lk.length lc3] 27)).alloc (.cells #[.int .i64 qa, .int .i64 qc] 29) = Y := ⟨_, rfl⟩
 have HBY3 : Hid (Below W3.heap.size W3 Y3) := Lib.hid (by rw [← hY3]; exact ((Below.refl _ _).alloc (Nat.le_refl _) _).alloc (by simp) _)
 have HS3 : Hid (Blk Y3 b8 #[.slice ra3 T.ru.length rc3, .slice za3 Z3.length zc3, .slice la3 T.lk.length lc3] 27) := Lib.hid (by rw [← hY3, ← hb8]; exact (Blk.new _ _ _).below ((Below.refl _ _).alloc (Nat.le_refl _) _))
 have HP3 : Hid (Blk Y3 b9 #[.int .i64 qa, .int .i64 qc] 29) := Lib.hid (by
  rw [← hY3, ← hb9]
  have q := Blk.new (W3.alloc (.cells #[.slice ra3 T.ru.length rc3, .slice za3 Z3.length zc3, .slice la3 T.lk.length lc3] 27)) #[.int .i64 qa, .int .i64 qc] 29
  simpa using q)
 try rw [hY3]
 try rw [hb9]
 try rw [hb8]
 clear hY3 hb8 hb9
 have HBZ3 := Lib.hid (keepBelow (keepBelow HBZ2.out HB3.out) HBY3.out)
 by_cases hea : ea = 0
 case neg =>
  have g0 : (ea != 0) = true := by simpa using hea
  go_wp2_with fail
  go_ret
  exact ⟨rfl, HBZ3.out⟩
 by_cases heb : eb = 0
 case neg =>
  have g0 : (eb != 0) = true := by simpa using heb
  subst hea
  go_wp2_with fail
  go_ret
  exact ⟨rfl, HBZ3.out⟩
 subst hea
 subst heb
 have HV1 := Lib.hid (HVS.out rfl)
 have HV2 := Lib.hid (HVT.out rfl)
 have HD := Lib.hid (HDI.out rfl rfl)
 clear HVS HVT HDI HPA HPB HAW
 have HC : Hid (∀ W, Below Y3.heap.size Y3 W → W.cell? ⟨b5, 0, none⟩ = some (.slice ra2 S.ru.length rc2) ∧ W.cell? ⟨b5, 1, none⟩ = some (.slice za2 Z2.length zc2) ∧ W.cell? ⟨b5, 2, none⟩ = some (.slice la2 S.lk.length lc2) ∧ W.cell? ⟨b8, 0, none⟩ = some (.slice ra3 T.ru.length rc3) ∧ W.cell? ⟨b8, 1, none⟩ = some (.slice za3 Z3.length zc3) ∧ W.cell? ⟨b8, 2, none⟩ = some (.slice la3 T.lk.length lc3)) := Lib.hid fun W hW =>
  ⟨((((HS2.out.below HB3.out).below HBY3.out).below hW).cell (j := 0) rfl), ((((HS2.out.below HB3.out).below HBY3.out).below hW).cell (j := 1) rfl), ((((HS2.out.below HB3.out).below HBY3.out).below hW).cell (j := 2) rfl), ((HS3.out.below hW).cell (j := 0) rfl), ((HS3.out.below hW).cell (j := 1) rfl), ((HS3.out.below hW).cell (j := 2) rfl)⟩
 have HRS := Lib.hid ((((HR2.out.below HBY2.out).below HB3.out).below HBY3.out))
 have HRT := Lib.hid (HR3.out.below HBY3.out)
 have HZ2 : Hid (Z2.length ≤ 300000) := Lib.hid (by have := congrArg List.length HRS.out.zs; rw [List.length_map] at this; rw [this]; exact (valid_bnd HV1.out).2.1)
 have HZ3 : Hid (Z3.length ≤ 300000) := Lib.hid (by have := congrArg List.length HRT.out.zs; rw [List.length_map] at this; rw [this]; exact (valid_bnd HV2.out).2.1)
 obtain ⟨QR, hQR⟩ : ∃ Q, S.ru ++ T.ru = Q := ⟨_, rfl⟩
 obtain ⟨QZ, hQZ⟩ : ∃ Q, Z2 ++ Z3 = Q := ⟨_, rfl⟩
 obtain ⟨QL, hQL⟩ : ∃ Q, S.lk ++ T.lk = Q := ⟨_, rfl⟩
 have HQR := Lib.hid hQR
 have HQZ := Lib.hid hQZ
 have HQL := Lib.hid hQL
 clear hQR hQZ hQL
 go_upto_region 9 with fail
 refine wp_region_any (by kernel_rfl) ?_
 change wpAny _ _ _ _ _ _ _ Y3.drew
 obtain ⟨I, HIe⟩ : ∃ I : Array Bool → Act → World → Prop, I = fun (ls : Array Bool) (a9 : Act) (w9 : World) => ∃ (n4 : Nat) (n10 : Nat) (n16 : Nat) (n19 : Nat) (v50 : Value) (v56 : Value) (v62 : Value) (u11 u45 u46 u47 u48 u49 u50 u51 u52 u53 u54 u55 u56 u57 u58 u59 u60 u61 u62 u63 : Value), ls.size = 21 ∧ a9 = ⟨#[.string a, .string b, undef, undef, .bool false, .pointer (some ⟨b5, 0, none⟩), .pointer (some ⟨b6, 0, none⟩), .int .i64 0, .pointer (some ⟨b8, 0, none⟩), .pointer (some ⟨b9, 0, none⟩), .int .i64 0, u11, undef, undef, undef, undef, undef, .bool true, .bool false, .string a, .int .i64 a.size, .bool false, .bool false, .string b, .int .i64 b.size, .bool false, .bool false, .tuple #[.agg #[.slice ra2 S.ru.length rc2, .slice za2 Z2.length zc2, .slice la2 S.lk.length lc2], .agg #[.int .i64 pa, .int .i64 pc], .int .i64 0], .string a, .tuple #[.agg #[.slice ra2 S.ru.length rc2, .slice za2 Z2.length zc2, .slice la2 S.lk.length lc2], .agg #[.int .i64 pa, .int .i64 pc], .int .i64 0], .agg #[.slice ra2 S.ru.length rc2, .slice za2 Z2.length zc2, .slice la2 S.lk.length lc2], .agg #[.int .i64 pa, .int .i64 pc], .int .i64 0, .tuple #[.agg #[.slice ra3 T.ru.length rc3, .slice za3 Z3.length zc3, .slice la3 T.lk.length lc3], .agg #[.int .i64 qa, .int .i64 qc], .int .i64 0], .string b, .tuple #[.agg #[.slice ra3 T.ru.length rc3, .slice za3 Z3.length zc3, .slice la3 T.lk.length lc3], .agg #[.int .i64 qa, .int .i64 qc], .int .i64 0], .agg #[.slice ra3 T.ru.length rc3, .slice za3 Z3.length zc3, .slice la3 T.lk.length lc3], .agg #[.int .i64 qa, .int .i64 qc], .int .i64 0, .int .i64 0, .bool false, .bool false, .int .i64 0, .bool false, .bool false, u45, u46, u47, u48, u49, u50, u51, u52, u53, u54, u55, u56, u57, u58, u59, u60, u61, u62, u63, undef, undef, undef, undef, undef, undef, undef, undef, undef, undef, undef, undef, undef, undef, undef, undef, undef, undef, undef, undef, undef, undef, undef, undef, undef, undef], []⟩ ∧ Hid (Below Y3.heap.size Y3 w9) ∧ Hid (ls.getD 0 false = true → u45 = .pointer (some ⟨b5, 0, none⟩)) ∧ Hid (ls.getD 1 false = true → u46 = .slice ra2 S.ru.length rc2) ∧ Hid (ls.getD 2 false = true → u47 = .pointer (some ⟨b8, 0, none⟩)) ∧ Hid (ls.getD 3 false = true → u48 = .slice ra3 T.ru.length rc3) ∧ Hid (ls.getD 4 false = true → u49 = .slice (some ⟨n4, 0, none⟩) 2 2) ∧ Hid (ls.getD 5 false = true → u50 = v50) ∧ Hid (ls.getD 6 false = true → u51 = .pointer (some ⟨b5, 1, none⟩)) ∧ Hid (ls.getD 7 false = true → u52 = .slice za2 Z2.length zc2) ∧ Hid (ls.getD 8 false = true → u53 = .pointer (some ⟨b8, 1, none⟩)) ∧ Hid (ls.getD 9 false = true → u54 = .slice za3 Z3.length zc3) ∧ Hid (ls.getD 10 false = true → u55 = .slice (some ⟨n10, 0, none⟩) 2 2) ∧ Hid (ls.getD 11 false = true → u56 = v56) ∧ Hid (ls.getD 12 false = true → u57 = .pointer (some ⟨b5, 2, none⟩)) ∧ Hid (ls.getD 13 false = true → u58 = .slice la2 S.lk.length lc2) ∧ Hid (ls.getD 14 false = true → u59 = .pointer (some ⟨b8, 2, none⟩)) ∧ Hid (ls.getD 15 false = true → u60 = .slice la3 T.lk.length lc3) ∧ Hid (ls.getD 16 false = true → u61 = .slice (some ⟨n16, 0, none⟩) 2 2) ∧ Hid (ls.getD 17 false = true → u62 = v62) ∧ Hid (ls.getD 18 false = true → u63 = .agg #[v50, v56, v62]) ∧ Hid (ls.getD 19 false = true → u11 = .pointer (some ⟨n19, 0, none⟩)) ∧ Hid (ls.getD 4 false = true → ls.getD 20 false = false → (Blk w9 n4 (#[.slice ra2 S.ru.length rc2, .slice ra3 T.ru.length rc3]) 23)) ∧ Hid (ls.getD 10 false = true → ls.getD 20 false = false → (Blk w9 n10 (#[.slice za2 Z2.length zc2, .slice za3 Z3.length zc3]) 24)) ∧ Hid (ls.getD 16 false = true → ls.getD 20 false = false → (Blk w9 n16 (#[.slice la2 S.lk.length lc2, .slice la3 T.lk.length lc3]) 25)) ∧ Hid (ls.getD 5 false = true → (OwnG 41 11 flRu w9 Y3.heap.size v50 QR)) ∧ Hid (ls.getD 11 false = true → (OwnG 45 2 flZk w9 Y3.heap.size v56 QZ)) ∧ Hid (ls.getD 17 false = true → (OwnG 48 2 flLk w9 Y3.heap.size v62 QL)) ∧ Hid (ls.getD 19 false = true → ls.getD 20 false = false → (Blk w9 n19 #[.slice none 0 0, .slice none 0 0, .slice none 0 0] 27)) ∧ Hid (ls.getD 19 false = true → (Y3.heap.size ≤ n19)) ∧ Hid (ls.getD 20 false = true → (Blk w9 n19 #[v50, v56, v62] 27)) := ⟨_, rfl⟩
 have HIH := Lib.hid HIe
 clear HIe
 refine wpAny_invC I ?_ ?_ _ _ _ _ ?_ ?_ ?_
 case refine_3 =>
  rw [HIH.out]
  exact ⟨0, 0, 0, 0, undef, undef, undef, undef, undef, undef, undef, undef, undef, undef, undef, undef, undef, undef, undef, undef, undef, undef, undef, undef, undef, undef, undef, rfl, rfl, (Lib.hid (Below.refl _ Y3).drew), (fun h => by cases h), (fun h => by cases h), (fun h => by cases h), (fun h => by cases h), (fun h => by cases h), (fun h => by cases h), (fun h => by cases h), (fun h => by cases h), (fun h => by cases h), (fun h => by cases h), (fun h => by cases h), (fun h => by cases h), (fun h => by cases h), (fun h => by cases h), (fun h => by cases h), (fun h => by cases h), (fun h => by cases h), (fun h => by cases h), (fun h => by cases h), (fun h => by cases h), (fun h => by cases h), (fun h => by cases h), (fun h => by cases h), (fun h => by cases h), (fun h => by cases h), (fun h => by cases h), (fun h => by cases h), (fun h => by cases h), (fun h => by cases h)⟩
 case refine_4 => intro j; exact getD_rep _ _
 case refine_5 => decide
 case refine_2 =>
  intro ls a9 w9 hI hr
  rw [HIH.out] at hI
  obtain ⟨n4, n10, n16, n19, v50, v56, v62, u11, u45, u46, u47, u48, u49, u50, u51, u52, u53, u54, u55, u56, u57, u58, u59, u60, u61, u62, u63, hsz, rfl, HBW, f0, f1, f2, f3, f4, f5, f6, f7, f8, f9, f10, f11, f12, f13, f14, f15, f16, f17, f18, f19, c4, c10, c16, o5, o11, o17, d19, l19, q20⟩ := hI
  have hall := all_listed hsz (by kernel_rfl) hr
  have e19 := f19.out (hall 19 (by decide))
  subst e19
  have hk := q20.out (hall 20 (by decide))
  have hle := l19.out (hall 19 (by decide))
  have a5 := o5.out (hall 5 (by decide))
  have a11 := o11.out (hall 11 (by decide))
  have a17 := o17.out (hall 17 (by decide))
  clear hall hr hsz q20 l19 o5 o11 o17 c4 c10 c16 d19 f0 f1 f2 f3 f4 f5 f6 f7 f8 f9 f10 f11 f12 f13 f14 f15 f16 f17 f18 f19
  have r5 : RdRu w9 v50 QR := a5.rd flRu_len (by rw [← HQR.out, List.length_append]; have := valid_bnd HV1.out; have := valid_bnd HV2.out; omega)
  have r11 : RdG 2 flZk zk0 w9 v56 QZ := a11.rd flZk_len (by rw [← HQZ.out, List.length_append]; have := HZ2.out; have := HZ3.out; omega)
  have r17 : RdLk w9 v62 QL := a17.rd flLk_len (by rw [← HQL.out, List.length_append]; have := valid_bnd HV1.out; have := valid_bnd HV2.out; omega)
  have HCP := Lib.hid (And.intro (cap_own a5) (And.intro (cap_own a11) (cap_own a17)))
  have HRW : Hid (RdSr w9 v50 v56 v62 (catS S T) QZ) := Lib.hid (by
   refine ⟨?_, ?_, ?_, ?_⟩
   ·show RdRu w9 v50 (S.ru ++ T.ru)
    rw [HQR.out]
    exact r5
   ·rw [← HQZ.out]
    rw [← HQZ.out] at r11
    exact rdzk_cat (HRS.out.zo.below HBW.out) (HRT.out.zo.below HBW.out) r11
   ·show _ = S.zo ++ T.zo
    rw [← HQZ.out, List.map_append, HRS.out.zs, HRT.out.zs]
   ·show RdLk w9 v62 (S.lk ++ T.lk)
    rw [HQL.out]
    exact r17)
  obtain ⟨g5, k5, rfl⟩ := a5.form
  obtain ⟨g11, k11, rfl⟩ := a11.form
  obtain ⟨g17, k17, rfl⟩ := a17.form
  clear a5 a11 a17 r5 r11 r17
  have HK := Lib.hid hk
  have HBV := Lib.hid (keepBelow HBZ3.out HBW.out)
  clear hk hle HC HRS HRT HZ2 HZ3 HIH HQR HQZ HQL HBW HS2 HS3 HP2 HP3 HCZ2 HCZ3 HR2 HR3 HBZ3 HBZ2 HBY3 HBY2 HB3 HB2 HB1
  generalize w9 = V at *
  obtain ⟨ck, hck⟩ : ∃ c, (checkM (catS S T)).2 = c := ⟨_, rfl⟩
  obtain ⟨CT, hCT⟩ : ∃ t : ByteArray, ⟨(checkM (catS S T)).1.toArray⟩ = t := ⟨_, rfl⟩
  have HCK : Hid (∀ W, Below V.heap.size V W → Calls Tryz.prog 18 #[.agg #[.slice g5 QR.length k5, .slice g11 QZ.length k11, .slice g17 QL.length k17]] W fun e w' => e = .returned (.tuple #[.string CT, .int .i64 ck]) ∧ Below W.heap.size W w') := Lib.hid fun W hW =>
   (check_any _ _ _ (catS S T) QZ W (HRW.out.below hW) (sz_cat (sz_valid HV1.out) (sz_valid HV2.out)) (HG.out.below (keepBelow HBV.out hW)) HCP.out.2.1 HCP.out.2.2).mono fun e w' h => ⟨by have q := h.1; unfold ChkA at q; rw [hck, hCT] at q; exact q, h.2⟩
  obtain ⟨U, ue, hU⟩ : ∃ (U : SrT) (ue : Int), parseM (bsO a ++ 10 :: bsO b) = (U, (0, 0), ue) ∧ ue = ck ∧ (ck = 0 → U = catS S T) := by
   have q := HD.out
   rw [hck] at q
   by_cases hc0 : ck = 0
   ·rw [if_neg (by simpa using hc0)] at q
    exact ⟨_, _, q, hc0.symm, fun _ => rfl⟩
   ·rw [if_pos hc0] at q
    exact ⟨_, _, q, rfl, fun h => absurd h hc0⟩
  have hsz2 : ((a.size + 1 + b.size : Nat) : Int) ≤ 3001 := by omega
  have HPC : Hid (∀ W, Below w.heap.size w W → Calls Tryz.prog 12 #[.string (a ++ (⟨#[10]⟩ : ByteArray) ++ b)] W (ParQ U 0 0 ck W)) := Lib.hid fun W hW => by
   have hsz3 : (a ++ (⟨#[10]⟩ : ByteArray) ++ b).size = a.size + 1 + b.size := by rw [ByteArray.size_append, ByteArray.size_append]; rfl
   have q := parse_any (a ++ (⟨#[10]⟩ : ByteArray) ++ b) (by omega) W (HG.out.below hW)
   have e : bsO (a ++ (⟨#[10]⟩ : ByteArray) ++ b) = bsO a ++ 10 :: bsO b := by
    rw [bs_app, bs_app, List.append_assoc]
    rfl
   unfold ParP at q
   rw [e, hU.1, hU.2.1] at q
   exact q
  have HUS : Hid (ck = 0 → U = catS S T) := Lib.hid hU.2.2
  clear hU hck hCT HD hsz2
  go_upto_region 11 with (first | (go_at_call 12; refine (HPC.out _ HBV.out).mono ?_; rintro e w4 ⟨rv4, zv4, lv4, Z4, rfl, hr4, cr4, cz4, cl4, hb4⟩; obtain ⟨W4, hW4⟩ : ∃ W, w4 = W := ⟨_, rfl⟩; rw [hW4] at hr4 hb4 ⊢; clear hW4; obtain ⟨ra4, rc4, rfl⟩ := hr4.ru.form; obtain ⟨za4, zc4, rfl⟩ := hr4.zo.row.form; obtain ⟨la4, lc4, rfl⟩ := hr4.lk.form; have HR4 := Lib.hid hr4; have HB4 := Lib.hid hb4; have HCZ4 := Lib.hid (And.intro cr4 (And.intro cz4 cl4)); clear hr4 hb4 cr4 cz4 cl4) | fail)
  obtain ⟨b12, hb12⟩ : ∃ b, W4.heap.size = b := ⟨_, rfl⟩
  obtain ⟨b13, hb13⟩ : ∃ b, W4.heap.size + 1 = b := ⟨_, rfl⟩
  obtain ⟨Y4, hY4⟩ : ∃ Y, (W4.alloc (.cells #[.slice ra4 U.ru.length rc4, .slice za4 Z4.length zc4, .slice la4 U.lk.length lc4] 27)).alloc (.cells #[.int .i64 0, .int .i64 0] 29) = Y := ⟨_, rfl⟩
  have HBY4 : Hid (Below W4.heap.size W4 Y4) := Lib.hid (by rw [← hY4]; exact ((Below.refl _ _).alloc (Nat.le_refl _) _).alloc (by simp) _)
  have HS4 : Hid (Blk Y4 b12 #[.slice ra4 U.ru.length rc4, .slice za4 Z4.length zc4, .slice la4 U.lk.length lc4] 27) := Lib.hid (by rw [← hY4, ← hb12]; exact (Blk.new _ _ _).below ((Below.refl _ _).alloc (Nat.le_refl _) _))
  have HP4 : Hid (Blk Y4 b13 #[.int .i64 0, .int .i64 0] 29) := Lib.hid (by
   rw [← hY4, ← hb13]
   have q := Blk.new (W4.alloc (.cells #[.slice ra4 U.ru.length rc4, .slice za4 Z4.length zc4, .slice la4 U.lk.length lc4] 27)) #[.int .i64 0, .int .i64 0] 29
   simpa using q)
  try rw [hY4]
  try rw [hb13]
  try rw [hb12]
  clear hY4 hb12 hb13
  have HBZ4 := Lib.hid (keepBelow (keepBelow HBV.out HB4.out) HBY4.out)
  have HK4 := Lib.hid ((HK.out.below HB4.out).below HBY4.out)
  have hB4V := keepBelow HB4.out HBY4.out
  have d0 := HK4.out.cell (j := 0) rfl
  have d1 := HK4.out.cell (j := 1) rfl
  have d2 := HK4.out.cell (j := 2) rfl
  have HRU := Lib.hid (HR4.out.below HBY4.out)
  have HRV := Lib.hid ((HRW.out.below HB4.out).below HBY4.out)
  clear HPC
  go_upto_region 12 with (first | (go_at_call 18; refine (HCK.out _ hB4V).mono ?_; rintro e w5 ⟨rfl, hb5⟩; obtain ⟨W5, hW5⟩ : ∃ W, w5 = W := ⟨_, rfl⟩; rw [hW5] at hb5 ⊢; clear hW5; have HB5 := Lib.hid hb5; clear hb5) | fail)
  have HB5w := Lib.hid (keepBelow HBZ4.out HB5.out)
  clear d0 d1 d2 hB4V
  by_cases hc0 : ck = 0
  ·have HSM : Hid (∀ W, Below W5.heap.size W5 W → Calls Tryz.prog 14 #[.agg #[.slice ra4 U.ru.length rc4, .slice za4 Z4.length zc4, .slice la4 U.lk.length lc4], .agg #[.slice g5 QR.length k5, .slice g11 QZ.length k11, .slice g17 QL.length k17]] W fun e w' => e = .returned (.bool true) ∧ Below W.heap.size W w') := Lib.hid fun W hW => by
    have q := same_any _ _ _ U Z4 _ _ _ (catS S T) QZ W ((HRU.out.below HB5.out).below hW) ((HRV.out.below HB5.out).below hW)
    rw [decide_eq_true (HUS.out hc0)] at q
    exact q
   subst hc0
   have x0 := (HS4.out.below HB5.out).cell (j := 0) rfl
   have x1 := (HS4.out.below HB5.out).cell (j := 1) rfl
   have x2 := (HS4.out.below HB5.out).cell (j := 2) rfl
   have d0 := (HK4.out.below HB5.out).cell (j := 0) rfl
   have d1 := (HK4.out.below HB5.out).cell (j := 1) rfl
   have d2 := (HK4.out.below HB5.out).cell (j := 2) rfl
   clear HUS HRU HRV HRW HCK
   go_wp2_with (first | (go_at_call 14; refine (HSM.out _ (by first | exact Below.refl _ _ | exact (Below.refl _ _).drew)).mono ?_; rintro e w7 ⟨rfl, hb7⟩) | fail)
   go_ret
   exact ⟨ret_bool (by simp), keepBelow HB5w.out (by first | exact hb7 | exact keepBelow (Below.refl _ _).drew hb7)⟩
  ·have g0 : (ck != 0) = true := by simpa using hc0
   clear HUS HRU HRV HRW HCK hc0
   go_wp2_with fail
   go_ret
   exact ⟨ret_bool (by simp), HB5w.out⟩
 case refine_1 =>
  intro ls a9 w9 i' hI hcl hi'
  rw [HIH.out] at hI
  obtain ⟨n4, n10, n16, n19, v50, v56, v62, u11, u45, u46, u47, u48, u49, u50, u51, u52, u53, u54, u55, u56, u57, u58, u59, u60, u61, u62, u63, hsz, rfl, HBW, f0, f1, f2, f3, f4, f5, f6, f7, f8, f9, f10, f11, f12, f13, f14, f15, f16, f17, f18, f19, c4, c10, c16, o5, o11, o17, d19, l19, q20⟩ := hI
  obtain ⟨hj, op, hop, hall⟩ := mem_ready.1 hi'
  have hlt' := (Array.getElem?_eq_some_iff.1 hop).1
  have hlt' : i' < 21 := hlt'
  have hsz' : (ls.setIfInBounds i' true).size = 21 := by rw [Array.size_setIfInBounds]; exact hsz
  rcases (show i' = 0 ∨ i' = 1 ∨ i' = 2 ∨ i' = 3 ∨ i' = 4 ∨ i' = 5 ∨ i' = 6 ∨ i' = 7 ∨ i' = 8 ∨ i' = 9 ∨ i' = 10 ∨ i' = 11 ∨ i' = 12 ∨ i' = 13 ∨ i' = 14 ∨ i' = 15 ∨ i' = 16 ∨ i' = 17 ∨ i' = 18 ∨ i' = 19 ∨ i' = 20 by omega) with rfl | rfl | rfl | rfl | rfl | rfl | rfl | rfl | rfl | rfl | rfl | rfl | rfl | rfl | rfl | rfl | rfl | rfl | rfl | rfl | rfl
  ·simp at hop
   subst hop
   refine wpOp_of_list (i := 0) rfl ?_
   go_wp2
   show I _ _ _
   rw [HIH.out]
   exact ⟨n4, n10, n16, n19, v50, v56, v62, _, _, _, _, _, _, _, _, _, _, _, _, _, _, _, _, _, _, _, _, hsz', rfl, (HBW), (fun _ => rfl), (gx f1), (gx f2), (gx f3), (gx f4), (gx f5), (gx f6), (gx f7), (gx f8), (gx f9), (gx f10), (gx f11), (gx f12), (gx f13), (gx f14), (gx f15), (gx f16), (gx f17), (gx f18), (gx f19), (gx2 c4), (gx2 c10), (gx2 c16), (gx o5), (gx o11), (gx o17), (gx2 d19), (gx l19), (gx q20)⟩
  ·simp at hop
   subst hop
   refine wpOp_of_list (i := 1) rfl ?_
   have e45 := f0.out (hall ⟨0, .data⟩ (by simp) rfl)
   subst e45
   obtain ⟨y0, y1, y2, y3, y4, y5⟩ := HC.out w9 HBW.out
   go_wp2
   show I _ _ _
   rw [HIH.out]
   exact ⟨n4, n10, n16, n19, v50, v56, v62, _, _, _, _, _, _, _, _, _, _, _, _, _, _, _, _, _, _, _, _, hsz', rfl, (HBW), (fun _ => rfl), (fun _ => rfl), (gx f2), (gx f3), (gx f4), (gx f5), (gx f6), (gx f7), (gx f8), (gx f9), (gx f10), (gx f11), (gx f12), (gx f13), (gx f14), (gx f15), (gx f16), (gx f17), (gx f18), (gx f19), (gx2 c4), (gx2 c10), (gx2 c16), (gx o5), (gx o11), (gx o17), (gx2 d19), (gx l19), (gx q20)⟩
  ·simp at hop
   subst hop
   refine wpOp_of_list (i := 2) rfl ?_
   go_wp2
   show I _ _ _
   rw [HIH.out]
   exact ⟨n4, n10, n16, n19, v50, v56, v62, _, _, _, _, _, _, _, _, _, _, _, _, _, _, _, _, _, _, _, _, hsz', rfl, (HBW), (gx f0), (gx f1), (fun _ => rfl), (gx f3), (gx f4), (gx f5), (gx f6), (gx f7), (gx f8), (gx f9), (gx f10), (gx f11), (gx f12), (gx f13), (gx f14), (gx f15), (gx f16), (gx f17), (gx f18), (gx f19), (gx2 c4), (gx2 c10), (gx2 c16), (gx o5), (gx o11), (gx o17), (gx2 d19), (gx l19), (gx q20)⟩
  ·simp at hop
   subst hop
   refine wpOp_of_list (i := 3) rfl ?_
   have e47 := f2.out (hall ⟨2, .data⟩ (by simp) rfl)
   subst e47
   obtain ⟨y0, y1, y2, y3, y4, y5⟩ := HC.out w9 HBW.out
   go_wp2
   show I _ _ _
   rw [HIH.out]
   exact ⟨n4, n10, n16, n19, v50, v56, v62, _, _, _, _, _, _, _, _, _, _, _, _, _, _, _, _, _, _, _, _, hsz', rfl, (HBW), (gx f0), (gx f1), (fun _ => rfl), (fun _ => rfl), (gx f4), (gx f5), (gx f6), (gx f7), (gx f8), (gx f9), (gx f10), (gx f11), (gx f12), (gx f13), (gx f14), (gx f15), (gx f16), (gx f17), (gx f18), (gx f19), (gx2 c4), (gx2 c10), (gx2 c16), (gx o5), (gx o11), (gx o17), (gx2 d19), (gx l19), (gx q20)⟩
  ·simp at hop
   subst hop
   refine wpOp_of_list (i := 4) rfl ?_
   have e46 := f1.out (hall ⟨1, .data⟩ (by simp) rfl)
   subst e46
   have e48 := f3.out (hall ⟨3, .data⟩ (by simp) rfl)
   subst e48
   have y4 := not_listed hj
   have y5 := hcl.off (i := 4) (j := 5) rfl y4 ⟨⟨4, .data⟩, by simp, rfl, rfl⟩
   have y11 := hcl.off (i := 5) (j := 11) rfl y5 ⟨⟨5, .chain⟩, by simp, rfl, rfl⟩
   have y17 := hcl.off (i := 11) (j := 17) rfl y11 ⟨⟨11, .chain⟩, by simp, rfl, rfl⟩
   have y18 := hcl.off (i := 17) (j := 18) rfl y17 ⟨⟨17, .data⟩, by simp, rfl, rfl⟩
   have y20 := hcl.off (i := 18) (j := 20) rfl y18 ⟨⟨18, .data⟩, by simp, rfl, rfl⟩
   have x4 := Lib.hid y4
   clear y4
   have x5 := Lib.hid y5
   clear y5
   have x11 := Lib.hid y11
   clear y11
   have x17 := Lib.hid y17
   clear y17
   have x18 := Lib.hid y18
   clear y18
   have x20 := Lib.hid y20
   clear y20
   obtain ⟨O, hO⟩ : ∃ O, (Obj.cells #[.slice ra2 S.ru.length rc2, .slice ra3 T.ru.length rc3] 23) = O := ⟨_, rfl⟩
   have hb8 : Below w9.heap.size w9 (w9.alloc O) := (Below.refl _ w9).alloc (Nat.le_refl _) _
   have hS : Blk (w9.alloc O) w9.heap.size #[.slice ra2 S.ru.length rc2, .slice ra3 T.ru.length rc3] 23 := by rw [← hO]; exact Blk.new _ _ _
   rw [← hO] at hS hb8
   clear hO
   go_wp2
   show I _ _ _
   rw [HIH.out]
   exact ⟨w9.heap.size, n10, n16, n19, v50, v56, v62, _, _, _, _, _, _, _, _, _, _, _, _, _, _, _, _, _, _, _, _, hsz', rfl, (Lib.hid (keepBelow HBW.out hb8)), (gx f0), (fun _ => rfl), (gx f2), (fun _ => rfl), (fun _ => rfl), (gx f5), (gx f6), (gx f7), (gx f8), (gx f9), (gx f10), (gx f11), (gx f12), (gx f13), (gx f14), (gx f15), (gx f16), (gx f17), (gx f18), (gx f19), (fun _ _ => hS), (fun h h2 => (c10.out (gd h) (gd h2)).below hb8), (fun h h2 => (c16.out (gd h) (gd h2)).below hb8), (fun h => (o5.out (gd h)).below hb8), (fun h => (o11.out (gd h)).below hb8), (fun h => (o17.out (gd h)).below hb8), (fun h h2 => (d19.out (gd h) (gd h2)).below hb8), (gx l19), (fun h => absurd (gd h) (by rw [x20.out]; exact Bool.false_ne_true))⟩
  ·simp at hop
   subst hop
   refine wpOp_of_list (i := 5) rfl ?_
   have e49 := f4.out (hall ⟨4, .data⟩ (by simp) rfl)
   subst e49
   have y5 := not_listed hj
   have y11 := hcl.off (i := 5) (j := 11) rfl y5 ⟨⟨5, .chain⟩, by simp, rfl, rfl⟩
   have y17 := hcl.off (i := 11) (j := 17) rfl y11 ⟨⟨11, .chain⟩, by simp, rfl, rfl⟩
   have y18 := hcl.off (i := 17) (j := 18) rfl y17 ⟨⟨17, .data⟩, by simp, rfl, rfl⟩
   have y20 := hcl.off (i := 18) (j := 20) rfl y18 ⟨⟨18, .data⟩, by simp, rfl, rfl⟩
   have x5 := Lib.hid y5
   clear y5
   have x11 := Lib.hid y11
   clear y11
   have x17 := Lib.hid y17
   clear y17
   have x18 := Lib.hid y18
   clear y18
   have x20 := Lib.hid y20
   clear y20
   have hk := c4.out (hall ⟨4, .data⟩ (by simp) rfl) x20.out
   have p0 := hk.cell (j := 0) rfl
   have p1 := hk.cell (j := 1) rfl
   go_wp2_with (first | (go_at_call 15; refine (cat_rule _ _ _ _ n4 2 w9 (HRS.out.ru.below HBW.out) (HRT.out.ru.below HBW.out) (fun z _ => one_ru z) (fun z _ => one_ru z) (valid_bnd HV1.out).1 (valid_bnd HV2.out).1 p0 p1).mono ?_; rintro e w8 ⟨v8, rfl, ho8, hb8⟩; have ho9 := ho8.mono HBW.out.size; rw [HQR.out] at ho9; clear ho8 hk p0 p1) | fail)
   show I _ _ _
   rw [HIH.out]
   exact ⟨n4, n10, n16, n19, v8, v56, v62, _, _, _, _, _, _, _, _, _, _, _, _, _, _, _, _, _, _, _, _, hsz', rfl, (Lib.hid (keepBelow HBW.out hb8)), (gx f0), (gx f1), (gx f2), (gx f3), (fun _ => rfl), (fun _ => rfl), (gx f6), (gx f7), (gx f8), (gx f9), (gx f10), (gx f11), (gx f12), (gx f13), (gx f14), (gx f15), (gx f16), (gx f17), (fun h => absurd (gd h) (by rw [x18.out]; exact Bool.false_ne_true)), (gx f19), (fun h h2 => (c4.out (gd h) (gd h2)).below hb8), (fun h h2 => (c10.out (gd h) (gd h2)).below hb8), (fun h h2 => (c16.out (gd h) (gd h2)).below hb8), (fun _ => ho9), (fun h => (o11.out (gd h)).below hb8), (fun h => (o17.out (gd h)).below hb8), (fun h h2 => (d19.out (gd h) (gd h2)).below hb8), (gx l19), (fun h => absurd (gd h) (by rw [x20.out]; exact Bool.false_ne_true))⟩
  ·simp at hop
   subst hop
   refine wpOp_of_list (i := 6) rfl ?_
   go_wp2
   show I _ _ _
   rw [HIH.out]
   exact ⟨n4, n10, n16, n19, v50, v56, v62, _, _, _, _, _, _, _, _, _, _, _, _, _, _, _, _, _, _, _, _, hsz', rfl, (HBW), (gx f0), (gx f1), (gx f2), (gx f3), (gx f4), (gx f5), (fun _ => rfl), (gx f7), (gx f8), (gx f9), (gx f10), (gx f11), (gx f12), (gx f13), (gx f14), (gx f15), (gx f16), (gx f17), (gx f18), (gx f19), (gx2 c4), (gx2 c10), (gx2 c16), (gx o5), (gx o11), (gx o17), (gx2 d19), (gx l19), (gx q20)⟩
  ·simp at hop
   subst hop
   refine wpOp_of_list (i := 7) rfl ?_
   have e51 := f6.out (hall ⟨6, .data⟩ (by simp) rfl)
   subst e51
   obtain ⟨y0, y1, y2, y3, y4, y5⟩ := HC.out w9 HBW.out
   go_wp2
   show I _ _ _
   rw [HIH.out]
   exact ⟨n4, n10, n16, n19, v50, v56, v62, _, _, _, _, _, _, _, _, _, _, _, _, _, _, _, _, _, _, _, _, hsz', rfl, (HBW), (gx f0), (gx f1), (gx f2), (gx f3), (gx f4), (gx f5), (fun _ => rfl), (fun _ => rfl), (gx f8), (gx f9), (gx f10), (gx f11), (gx f12), (gx f13), (gx f14), (gx f15), (gx f16), (gx f17), (gx f18), (gx f19), (gx2 c4), (gx2 c10), (gx2 c16), (gx o5), (gx o11), (gx o17), (gx2 d19), (gx l19), (gx q20)⟩
  ·simp at hop
   subst hop
   refine wpOp_of_list (i := 8) rfl ?_
   go_wp2
   show I _ _ _
   rw [HIH.out]
   exact ⟨n4, n10, n16, n19, v50, v56, v62, _, _, _, _, _, _, _, _, _, _, _, _, _, _, _, _, _, _, _, _, hsz', rfl, (HBW), (gx f0), (gx f1), (gx f2), (gx f3), (gx f4), (gx f5), (gx f6), (gx f7), (fun _ => rfl), (gx f9), (gx f10), (gx f11), (gx f12), (gx f13), (gx f14), (gx f15), (gx f16), (gx f17), (gx f18), (gx f19), (gx2 c4), (gx2 c10), (gx2 c16), (gx o5), (gx o11), (gx o17), (gx2 d19), (gx l19), (gx q20)⟩
  ·simp at hop
   subst hop
   refine wpOp_of_list (i := 9) rfl ?_
   have e53 := f8.out (hall ⟨8, .data⟩ (by simp) rfl)
   subst e53
   obtain ⟨y0, y1, y2, y3, y4, y5⟩ := HC.out w9 HBW.out
   go_wp2
   show I _ _ _
   rw [HIH.out]
   exact ⟨n4, n10, n16, n19, v50, v56, v62, _, _, _, _, _, _, _, _, _, _, _, _, _, _, _, _, _, _, _, _, hsz', rfl, (HBW), (gx f0), (gx f1), (gx f2), (gx f3), (gx f4), (gx f5), (gx f6), (gx f7), (fun _ => rfl), (fun _ => rfl), (gx f10), (gx f11), (gx f12), (gx f13), (gx f14), (gx f15), (gx f16), (gx f17), (gx f18), (gx f19), (gx2 c4), (gx2 c10), (gx2 c16), (gx o5), (gx o11), (gx o17), (gx2 d19), (gx l19), (gx q20)⟩
  ·simp at hop
   subst hop
   refine wpOp_of_list (i := 10) rfl ?_
   have e52 := f7.out (hall ⟨7, .data⟩ (by simp) rfl)
   subst e52
   have e54 := f9.out (hall ⟨9, .data⟩ (by simp) rfl)
   subst e54
   have y10 := not_listed hj
   have y11 := hcl.off (i := 10) (j := 11) rfl y10 ⟨⟨10, .data⟩, by simp, rfl, rfl⟩
   have y17 := hcl.off (i := 11) (j := 17) rfl y11 ⟨⟨11, .chain⟩, by simp, rfl, rfl⟩
   have y18 := hcl.off (i := 17) (j := 18) rfl y17 ⟨⟨17, .data⟩, by simp, rfl, rfl⟩
   have y20 := hcl.off (i := 18) (j := 20) rfl y18 ⟨⟨18, .data⟩, by simp, rfl, rfl⟩
   have x10 := Lib.hid y10
   clear y10
   have x11 := Lib.hid y11
   clear y11
   have x17 := Lib.hid y17
   clear y17
   have x18 := Lib.hid y18
   clear y18
   have x20 := Lib.hid y20
   clear y20
   obtain ⟨O, hO⟩ : ∃ O, (Obj.cells #[.slice za2 Z2.length zc2, .slice za3 Z3.length zc3] 24) = O := ⟨_, rfl⟩
   have hb8 : Below w9.heap.size w9 (w9.alloc O) := (Below.refl _ w9).alloc (Nat.le_refl _) _
   have hS : Blk (w9.alloc O) w9.heap.size #[.slice za2 Z2.length zc2, .slice za3 Z3.length zc3] 24 := by rw [← hO]; exact Blk.new _ _ _
   rw [← hO] at hS hb8
   clear hO
   go_wp2
   show I _ _ _
   rw [HIH.out]
   exact ⟨n4, w9.heap.size, n16, n19, v50, v56, v62, _, _, _, _, _, _, _, _, _, _, _, _, _, _, _, _, _, _, _, _, hsz', rfl, (Lib.hid (keepBelow HBW.out hb8)), (gx f0), (gx f1), (gx f2), (gx f3), (gx f4), (gx f5), (gx f6), (fun _ => rfl), (gx f8), (fun _ => rfl), (fun _ => rfl), (gx f11), (gx f12), (gx f13), (gx f14), (gx f15), (gx f16), (gx f17), (gx f18), (gx f19), (fun h h2 => (c4.out (gd h) (gd h2)).below hb8), (fun _ _ => hS), (fun h h2 => (c16.out (gd h) (gd h2)).below hb8), (fun h => (o5.out (gd h)).below hb8), (fun h => (o11.out (gd h)).below hb8), (fun h => (o17.out (gd h)).below hb8), (fun h h2 => (d19.out (gd h) (gd h2)).below hb8), (gx l19), (fun h => absurd (gd h) (by rw [x20.out]; exact Bool.false_ne_true))⟩
  ·simp at hop
   subst hop
   refine wpOp_of_list (i := 11) rfl ?_
   have e55 := f10.out (hall ⟨10, .data⟩ (by simp) rfl)
   subst e55
   have y11 := not_listed hj
   have y17 := hcl.off (i := 11) (j := 17) rfl y11 ⟨⟨11, .chain⟩, by simp, rfl, rfl⟩
   have y18 := hcl.off (i := 17) (j := 18) rfl y17 ⟨⟨17, .data⟩, by simp, rfl, rfl⟩
   have y20 := hcl.off (i := 18) (j := 20) rfl y18 ⟨⟨18, .data⟩, by simp, rfl, rfl⟩
   have x11 := Lib.hid y11
   clear y11
   have x17 := Lib.hid y17
   clear y17
   have x18 := Lib.hid y18
   clear y18
   have x20 := Lib.hid y20
   clear y20
   have hk := c10.out (hall ⟨10, .data⟩ (by simp) rfl) x20.out
   have p0 := hk.cell (j := 0) rfl
   have p1 := hk.cell (j := 1) rfl
   go_wp2_with (first | (go_at_call 16; refine (cat_zone _ _ _ _ n10 2 w9 (HRS.out.zo.row.below HBW.out) (HRT.out.zo.row.below HBW.out) (one_zk HRS.out.zo) (one_zk HRT.out.zo) HZ2.out HZ3.out p0 p1).mono ?_; rintro e w8 ⟨v8, rfl, ho8, hb8⟩; have ho9 := ho8.mono HBW.out.size; rw [HQZ.out] at ho9; clear ho8 hk p0 p1) | fail)
   show I _ _ _
   rw [HIH.out]
   exact ⟨n4, n10, n16, n19, v50, v8, v62, _, _, _, _, _, _, _, _, _, _, _, _, _, _, _, _, _, _, _, _, hsz', rfl, (Lib.hid (keepBelow HBW.out hb8)), (gx f0), (gx f1), (gx f2), (gx f3), (gx f4), (gx f5), (gx f6), (gx f7), (gx f8), (gx f9), (fun _ => rfl), (fun _ => rfl), (gx f12), (gx f13), (gx f14), (gx f15), (gx f16), (gx f17), (fun h => absurd (gd h) (by rw [x18.out]; exact Bool.false_ne_true)), (gx f19), (fun h h2 => (c4.out (gd h) (gd h2)).below hb8), (fun h h2 => (c10.out (gd h) (gd h2)).below hb8), (fun h h2 => (c16.out (gd h) (gd h2)).below hb8), (fun h => (o5.out (gd h)).below hb8), (fun _ => ho9), (fun h => (o17.out (gd h)).below hb8), (fun h h2 => (d19.out (gd h) (gd h2)).below hb8), (gx l19), (fun h => absurd (gd h) (by rw [x20.out]; exact Bool.false_ne_true))⟩
  ·simp at hop
   subst hop
   refine wpOp_of_list (i := 12) rfl ?_
   go_wp2
   show I _ _ _
   rw [HIH.out]
   exact ⟨n4, n10, n16, n19, v50, v56, v62, _, _, _, _, _, _, _, _, _, _, _, _, _, _, _, _, _, _, _, _, hsz', rfl, (HBW), (gx f0), (gx f1), (gx f2), (gx f3), (gx f4), (gx f5), (gx f6), (gx f7), (gx f8), (gx f9), (gx f10), (gx f11), (fun _ => rfl), (gx f13), (gx f14), (gx f15), (gx f16), (gx f17), (gx f18), (gx f19), (gx2 c4), (gx2 c10), (gx2 c16), (gx o5), (gx o11), (gx o17), (gx2 d19), (gx l19), (gx q20)⟩
  ·simp at hop
   subst hop
   refine wpOp_of_list (i := 13) rfl ?_
   have e57 := f12.out (hall ⟨12, .data⟩ (by simp) rfl)
   subst e57
   obtain ⟨y0, y1, y2, y3, y4, y5⟩ := HC.out w9 HBW.out
   go_wp2
   show I _ _ _
   rw [HIH.out]
   exact ⟨n4, n10, n16, n19, v50, v56, v62, _, _, _, _, _, _, _, _, _, _, _, _, _, _, _, _, _, _, _, _, hsz', rfl, (HBW), (gx f0), (gx f1), (gx f2), (gx f3), (gx f4), (gx f5), (gx f6), (gx f7), (gx f8), (gx f9), (gx f10), (gx f11), (fun _ => rfl), (fun _ => rfl), (gx f14), (gx f15), (gx f16), (gx f17), (gx f18), (gx f19), (gx2 c4), (gx2 c10), (gx2 c16), (gx o5), (gx o11), (gx o17), (gx2 d19), (gx l19), (gx q20)⟩
  ·simp at hop
   subst hop
   refine wpOp_of_list (i := 14) rfl ?_
   go_wp2
   show I _ _ _
   rw [HIH.out]
   exact ⟨n4, n10, n16, n19, v50, v56, v62, _, _, _, _, _, _, _, _, _, _, _, _, _, _, _, _, _, _, _, _, hsz', rfl, (HBW), (gx f0), (gx f1), (gx f2), (gx f3), (gx f4), (gx f5), (gx f6), (gx f7), (gx f8), (gx f9), (gx f10), (gx f11), (gx f12), (gx f13), (fun _ => rfl), (gx f15), (gx f16), (gx f17), (gx f18), (gx f19), (gx2 c4), (gx2 c10), (gx2 c16), (gx o5), (gx o11), (gx o17), (gx2 d19), (gx l19), (gx q20)⟩
  ·simp at hop
   subst hop
   refine wpOp_of_list (i := 15) rfl ?_
   have e59 := f14.out (hall ⟨14, .data⟩ (by simp) rfl)
   subst e59
   obtain ⟨y0, y1, y2, y3, y4, y5⟩ := HC.out w9 HBW.out
   go_wp2
   show I _ _ _
   rw [HIH.out]
   exact ⟨n4, n10, n16, n19, v50, v56, v62, _, _, _, _, _, _, _, _, _, _, _, _, _, _, _, _, _, _, _, _, hsz', rfl, (HBW), (gx f0), (gx f1), (gx f2), (gx f3), (gx f4), (gx f5), (gx f6), (gx f7), (gx f8), (gx f9), (gx f10), (gx f11), (gx f12), (gx f13), (fun _ => rfl), (fun _ => rfl), (gx f16), (gx f17), (gx f18), (gx f19), (gx2 c4), (gx2 c10), (gx2 c16), (gx o5), (gx o11), (gx o17), (gx2 d19), (gx l19), (gx q20)⟩
  ·simp at hop
   subst hop
   refine wpOp_of_list (i := 16) rfl ?_
   have e58 := f13.out (hall ⟨13, .data⟩ (by simp) rfl)
   subst e58
   have e60 := f15.out (hall ⟨15, .data⟩ (by simp) rfl)
   subst e60
   have y16 := not_listed hj
   have y17 := hcl.off (i := 16) (j := 17) rfl y16 ⟨⟨16, .data⟩, by simp, rfl, rfl⟩
   have y18 := hcl.off (i := 17) (j := 18) rfl y17 ⟨⟨17, .data⟩, by simp, rfl, rfl⟩
   have y20 := hcl.off (i := 18) (j := 20) rfl y18 ⟨⟨18, .data⟩, by simp, rfl, rfl⟩
   have x16 := Lib.hid y16
   clear y16
   have x17 := Lib.hid y17
   clear y17
   have x18 := Lib.hid y18
   clear y18
   have x20 := Lib.hid y20
   clear y20
   obtain ⟨O, hO⟩ : ∃ O, (Obj.cells #[.slice la2 S.lk.length lc2, .slice la3 T.lk.length lc3] 25) = O := ⟨_, rfl⟩
   have hb8 : Below w9.heap.size w9 (w9.alloc O) := (Below.refl _ w9).alloc (Nat.le_refl _) _
   have hS : Blk (w9.alloc O) w9.heap.size #[.slice la2 S.lk.length lc2, .slice la3 T.lk.length lc3] 25 := by rw [← hO]; exact Blk.new _ _ _
   rw [← hO] at hS hb8
   clear hO
   go_wp2
   show I _ _ _
   rw [HIH.out]
   exact ⟨n4, n10, w9.heap.size, n19, v50, v56, v62, _, _, _, _, _, _, _, _, _, _, _, _, _, _, _, _, _, _, _, _, hsz', rfl, (Lib.hid (keepBelow HBW.out hb8)), (gx f0), (gx f1), (gx f2), (gx f3), (gx f4), (gx f5), (gx f6), (gx f7), (gx f8), (gx f9), (gx f10), (gx f11), (gx f12), (fun _ => rfl), (gx f14), (fun _ => rfl), (fun _ => rfl), (gx f17), (gx f18), (gx f19), (fun h h2 => (c4.out (gd h) (gd h2)).below hb8), (fun h h2 => (c10.out (gd h) (gd h2)).below hb8), (fun _ _ => hS), (fun h => (o5.out (gd h)).below hb8), (fun h => (o11.out (gd h)).below hb8), (fun h => (o17.out (gd h)).below hb8), (fun h h2 => (d19.out (gd h) (gd h2)).below hb8), (gx l19), (fun h => absurd (gd h) (by rw [x20.out]; exact Bool.false_ne_true))⟩
  ·simp at hop
   subst hop
   refine wpOp_of_list (i := 17) rfl ?_
   have e61 := f16.out (hall ⟨16, .data⟩ (by simp) rfl)
   subst e61
   have y17 := not_listed hj
   have y18 := hcl.off (i := 17) (j := 18) rfl y17 ⟨⟨17, .data⟩, by simp, rfl, rfl⟩
   have y20 := hcl.off (i := 18) (j := 20) rfl y18 ⟨⟨18, .data⟩, by simp, rfl, rfl⟩
   have x17 := Lib.hid y17
   clear y17
   have x18 := Lib.hid y18
   clear y18
   have x20 := Lib.hid y20
   clear y20
   have hk := c16.out (hall ⟨16, .data⟩ (by simp) rfl) x20.out
   have p0 := hk.cell (j := 0) rfl
   have p1 := hk.cell (j := 1) rfl
   go_wp2_with (first | (go_at_call 17; refine (cat_link _ _ _ _ n16 2 w9 (HRS.out.lk.below HBW.out) (HRT.out.lk.below HBW.out) (fun z _ => one_lk z) (fun z _ => one_lk z) (valid_bnd HV1.out).2.2 (valid_bnd HV2.out).2.2 p0 p1).mono ?_; rintro e w8 ⟨v8, rfl, ho8, hb8⟩; have ho9 := ho8.mono HBW.out.size; rw [HQL.out] at ho9; clear ho8 hk p0 p1) | fail)
   show I _ _ _
   rw [HIH.out]
   exact ⟨n4, n10, n16, n19, v50, v56, v8, _, _, _, _, _, _, _, _, _, _, _, _, _, _, _, _, _, _, _, _, hsz', rfl, (Lib.hid (keepBelow HBW.out hb8)), (gx f0), (gx f1), (gx f2), (gx f3), (gx f4), (gx f5), (gx f6), (gx f7), (gx f8), (gx f9), (gx f10), (gx f11), (gx f12), (gx f13), (gx f14), (gx f15), (fun _ => rfl), (fun _ => rfl), (fun h => absurd (gd h) (by rw [x18.out]; exact Bool.false_ne_true)), (gx f19), (fun h h2 => (c4.out (gd h) (gd h2)).below hb8), (fun h h2 => (c10.out (gd h) (gd h2)).below hb8), (fun h h2 => (c16.out (gd h) (gd h2)).below hb8), (fun h => (o5.out (gd h)).below hb8), (fun h => (o11.out (gd h)).below hb8), (fun _ => ho9), (fun h h2 => (d19.out (gd h) (gd h2)).below hb8), (gx l19), (fun h => absurd (gd h) (by rw [x20.out]; exact Bool.false_ne_true))⟩
  ·simp at hop
   subst hop
   refine wpOp_of_list (i := 18) rfl ?_
   have e50 := f5.out (hall ⟨5, .data⟩ (by simp) rfl)
   subst e50
   have e56 := f11.out (hall ⟨11, .data⟩ (by simp) rfl)
   subst e56
   have e62 := f17.out (hall ⟨17, .data⟩ (by simp) rfl)
   subst e62
   obtain ⟨g5, k5, rfl⟩ := (o5.out (hall ⟨5, .data⟩ (by simp) rfl)).form
   obtain ⟨g11, k11, rfl⟩ := (o11.out (hall ⟨11, .data⟩ (by simp) rfl)).form
   obtain ⟨g17, k17, rfl⟩ := (o17.out (hall ⟨17, .data⟩ (by simp) rfl)).form
   go_wp2
   show I _ _ _
   rw [HIH.out]
   exact ⟨n4, n10, n16, n19, _, _, _, _, _, _, _, _, _, _, _, _, _, _, _, _, _, _, _, _, _, _, _, hsz', rfl, (HBW), (gx f0), (gx f1), (gx f2), (gx f3), (gx f4), (fun _ => rfl), (gx f6), (gx f7), (gx f8), (gx f9), (gx f10), (fun _ => rfl), (gx f12), (gx f13), (gx f14), (gx f15), (gx f16), (fun _ => rfl), (fun _ => rfl), (gx f19), (gx2 c4), (gx2 c10), (gx2 c16), (gx o5), (gx o11), (gx o17), (gx2 d19), (gx l19), (gx q20)⟩
  ·simp at hop
   subst hop
   refine wpOp_of_list (i := 19) rfl ?_
   have y19 := not_listed hj
   have y20 := hcl.off (i := 19) (j := 20) rfl y19 ⟨⟨19, .data⟩, by simp, rfl, rfl⟩
   have x19 := Lib.hid y19
   clear y19
   have x20 := Lib.hid y20
   clear y20
   obtain ⟨O, hO⟩ : ∃ O, (Obj.cells #[.slice none 0 0, .slice none 0 0, .slice none 0 0] 27) = O := ⟨_, rfl⟩
   have hb8 : Below w9.heap.size w9 (w9.alloc O) := (Below.refl _ w9).alloc (Nat.le_refl _) _
   have hS : Blk (w9.alloc O) w9.heap.size #[.slice none 0 0, .slice none 0 0, .slice none 0 0] 27 := by rw [← hO]; exact Blk.new _ _ _
   rw [← hO] at hS hb8
   have hsz8 := HBW.out.size
   clear hO
   go_wp2
   show I _ _ _
   rw [HIH.out]
   exact ⟨n4, n10, n16, w9.heap.size, v50, v56, v62, _, _, _, _, _, _, _, _, _, _, _, _, _, _, _, _, _, _, _, _, hsz', rfl, (Lib.hid (keepBelow HBW.out hb8)), (gx f0), (gx f1), (gx f2), (gx f3), (gx f4), (gx f5), (gx f6), (gx f7), (gx f8), (gx f9), (gx f10), (gx f11), (gx f12), (gx f13), (gx f14), (gx f15), (gx f16), (gx f17), (gx f18), (fun _ => rfl), (fun h h2 => (c4.out (gd h) (gd h2)).below hb8), (fun h h2 => (c10.out (gd h) (gd h2)).below hb8), (fun h h2 => (c16.out (gd h) (gd h2)).below hb8), (fun h => (o5.out (gd h)).below hb8), (fun h => (o11.out (gd h)).below hb8), (fun h => (o17.out (gd h)).below hb8), (fun _ _ => hS), (fun _ => hsz8), (fun h => absurd (gd h) (by rw [x20.out]; exact Bool.false_ne_true))⟩
  ·simp at hop
   subst hop
   refine wpOp_of_list (i := 20) rfl ?_
   have e11 := f19.out (hall ⟨19, .data⟩ (by simp) rfl)
   subst e11
   have e63 := f18.out (hall ⟨18, .data⟩ (by simp) rfl)
   subst e63
   have x20 := not_listed hj
   have hl19 := hall ⟨19, .data⟩ (by simp) rfl
   have hl5 := hall ⟨5, .phase⟩ (by simp) rfl
   have hl11 := hall ⟨11, .phase⟩ (by simp) rfl
   have hl17 := hall ⟨17, .phase⟩ (by simp) rfl
   have hd := d19.out hl19 x20
   have hle := l19.out hl19
   have a5 := o5.out hl5
   have a11 := o11.out hl11
   have a17 := o17.out hl17
   have z0 := hd.frz 0
   have z1 := hd.frz 1
   have z2 := hd.frz 2
   have c0 := hd.cell (j := 0) rfl
   have c1 := hd.cell (j := 1) rfl
   have c2 := hd.cell (j := 2) rfl
   obtain ⟨g5, k5, rfl⟩ := a5.form
   obtain ⟨g11, k11, rfl⟩ := a11.form
   obtain ⟨g17, k17, rfl⟩ := a17.form
   go_wp2
   obtain ⟨W8, hW8⟩ : ∃ W, (((w9.setCell ⟨n19, 0, none⟩ (.slice g5 QR.length k5)).setCell ⟨n19, 1, none⟩ (.slice g11 QZ.length k11)).setCell ⟨n19, 2, none⟩ (.slice g17 QL.length k17)) = W := ⟨_, rfl⟩
   have hf8 : ∀ g, g ≠ n19 → W8.heap[g]? = w9.heap[g]? := fun g hg => by rw [← hW8]; exact (set_far hg).trans ((set_far hg).trans (set_far hg))
   have hk8 : Blk W8 n19 #[.slice g5 QR.length k5, .slice g11 QZ.length k11, .slice g17 QL.length k17] 27 := by rw [← hW8]; exact ((hd.set (j := 0) _).set (j := 1) _).set (j := 2) _
   have hB8 : Below Y3.heap.size Y3 W8 := by rw [← hW8]; exact ((HBW.out.setCell (p := ⟨n19, 0, none⟩) hle _).setCell (p := ⟨n19, 1, none⟩) hle _).setCell (p := ⟨n19, 2, none⟩) hle _
   have n5 := a5.same (w' := W8) fun g q => hf8 g fun e => a5.apart hd (by decide) q e
   have n11 := a11.same (w' := W8) fun g q => hf8 g fun e => a11.apart hd (by decide) q e
   have n17 := a17.same (w' := W8) fun g q => hf8 g fun e => a17.apart hd (by decide) q e
   rw [hW8]
   clear hW8
   show I _ _ _
   rw [HIH.out]
   exact ⟨n4, n10, n16, n19, _, _, _, _, _, _, _, _, _, _, _, _, _, _, _, _, _, _, _, _, _, _, _, hsz', rfl, (Lib.hid hB8), (gx f0), (gx f1), (gx f2), (gx f3), (gx f4), (gx f5), (gx f6), (gx f7), (gx f8), (gx f9), (gx f10), (gx f11), (gx f12), (gx f13), (gx f14), (gx f15), (gx f16), (gx f17), (fun _ => rfl), (fun _ => rfl), (fun _ h2 => by rw [getD_self (by omega)] at h2; cases h2), (fun _ h2 => by rw [getD_self (by omega)] at h2; cases h2), (fun _ h2 => by rw [getD_self (by omega)] at h2; cases h2), (fun _ => n5), (fun _ => n11), (fun _ => n17), (fun _ h2 => by rw [getD_self (by omega)] at h2; cases h2), (gx l19), (fun _ => hk8)⟩
end Go.Proofs.YtlbglinpgjlbkaaGreatDoor
