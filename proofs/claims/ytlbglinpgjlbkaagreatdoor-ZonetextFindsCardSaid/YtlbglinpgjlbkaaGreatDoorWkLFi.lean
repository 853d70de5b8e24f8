import Derived.Test.YtlbglinpgjlbkaaGreatDoorWkFy
import Derived.Test.YtlbglinpgjlbkaaGreatDoorWkFr
import Derived.Test.YtlbglinpgjlbkaaGreatDoorWkEqs
import Derived.Test.YtlbglinpgjlbkaaGreatDoorWkSmz
import Derived.Test.YtlbglinpgjlbkaaGreatDoorWkFw
import Derived.Test.YtlbglinpgjlbkaaGreatDoorWkL0
/- Zone texts: the law Finds. Printed by gen_lfi.py. No conditions. -/
namespace Go.Proofs.YtlbglinpgjlbkaaGreatDoor
open Go.RowKit Wk

set_option maxRecDepth 100000 in
set_option maxHeartbeats 16000000 in
theorem law_Finds (rv zv lv : Value) (S : SrT) (Z : List ZkT) (rv2 zv2 lv2 : Value) (S2 : SrT) (Z2 : List ZkT) (N : ByteArray) (w : World)
  (hs : RdSr w rv zv lv S Z) (_ : CapV rv) (hcz : CapV zv) (hcl : CapV lv) (_ : ∀ i, i < Z.length → CapV (Z.getD i zk0).2)
  (hs2 : RdSr w rv2 zv2 lv2 S2 Z2) (_ : CapV rv2) (hcz2 : CapV zv2) (hcl2 : CapV lv2) (_ : ∀ i, i < Z2.length → CapV (Z2.getD i zk0).2) (hg : Glob w) :
  Calls Tryz.prog 5 #[.agg #[rv, zv, lv], .agg #[rv2, zv2, lv2], .string N] w fun e w' => e = .returned (.bool true) ∧ Below w.heap.size w w' := by
 have HG := Lib.hid hg
 have HS := Lib.hid hs
 have HAW : Hid (∀ W, Below w.heap.size w W → Calls Tryz.prog 11 #[] W fun e w' => e = .returned (.bool true) ∧ Below W.heap.size W w') := Lib.hid fun W hW => awake_any W (HG.out.below hW)
 have HF1 : Hid (∀ W, Below w.heap.size w W → Calls Tryz.prog 19 #[.agg #[rv, zv, lv]] W fun e w' => e = .returned (.bool (fewB S)) ∧ Below W.heap.size W w') := Lib.hid fun W hW => few_any rv zv lv S Z W (hs.below hW)
 have HF2 : Hid (∀ W, Below w.heap.size w W → Calls Tryz.prog 19 #[.agg #[rv2, zv2, lv2]] W fun e w' => e = .returned (.bool (fewB S2)) ∧ Below W.heap.size W w') := Lib.hid fun W hW => few_any rv2 zv2 lv2 S2 Z2 W (hs2.below hW)
 have HZP : Hid (fewB S = true → ∀ W, Below w.heap.size w W → Calls Tryz.prog 20 #[.agg #[rv, zv, lv], .string N] W fun e w' => (∃ v, e = .returned (.tuple #[.agg #[.string ⟨(zonM S (bsO N)).1.nm.toArray⟩, v], .int .i64 (zonM S (bsO N)).2]) ∧ RdLi w' v (zonM S (bsO N)).1.li) ∧ Below W.heap.size W w') := Lib.hid fun h W hW => (zoneOf_any rv zv lv S Z N W (hs.below hW) (few_out h).2.2.2 (HG.out.below hW) hcz hcl).mono fun e w' h => by obtain ⟨v, h1, h2, h3⟩ := h; exact ⟨⟨v, h1, h2⟩, h3⟩
 have HZR : Hid (fewB S = true → ∀ W, Below w.heap.size w W → Calls Tryz.prog 21 #[.agg #[rv, zv, lv], .string N] W fun e w' => (∃ v, e = .returned (.tuple #[.agg #[.string ⟨(zonM S (bsO N)).1.nm.toArray⟩, v], .int .i64 (zonM S (bsO N)).2]) ∧ RdLi w' v (zonM S (bsO N)).1.li) ∧ Below W.heap.size W w') := Lib.hid fun h W hW => (zoneOf19_any rv zv lv S Z N W (hs.below hW) (few_out h).2.2.2).mono fun e w' h => by obtain ⟨v, h1, h2, h3⟩ := h; exact ⟨⟨v, h1, h2⟩, h3⟩
 have HSZ : Hid (∀ (M : ByteArray) (li : List LiT) l1 l2 (W : World), RdLi W l1 li → RdLi W l2 li → Calls Tryz.prog 22 #[.agg #[.string M, l1], .agg #[.string M, l2]] W fun e w' => e = .returned (.bool true) ∧ Below W.heap.size W w') := Lib.hid fun M li l1 l2 W h1 h2 => by
  have q := sameZone_any M M l1 l2 li li W h1 h2
  rw [decide_eq_true rfl] at q
  exact q
 have HEQ : Hid (fewB S = true ∧ fewB S2 = true → ∀ W, Below w.heap.size w W → Calls Tryz.prog 23 #[.agg #[rv, zv, lv], .agg #[rv2, zv2, lv2]] W fun e w' => e = .returned (.bool (validB S && validB S2 && decide (S = S2))) ∧ Below W.heap.size W w') := Lib.hid fun h W hW => equal_any rv zv lv S Z rv2 zv2 lv2 S2 Z2 W (hs.below hW) (hs2.below hW) (few_out h.1).2.2.2 (few_out h.2).2.2.2 (HG.out.below hW) hcz hcl hcz2 hcl2
 have HV1 : Hid (fewB S = true → ∀ W, Below w.heap.size w W → Calls Tryz.prog 24 #[.agg #[rv, zv, lv]] W fun e w' => e = .returned (.bool (validB S)) ∧ Below W.heap.size W w') := Lib.hid fun h W hW => valid19_any rv zv lv S Z W (hs.below hW) (few_out h).2.2.2
 have HV2 : Hid (fewB S2 = true → ∀ W, Below w.heap.size w W → Calls Tryz.prog 24 #[.agg #[rv2, zv2, lv2]] W fun e w' => e = .returned (.bool (validB S2)) ∧ Below W.heap.size W w') := Lib.hid fun h W hW => valid19_any rv2 zv2 lv2 S2 Z2 W (hs2.below hW) (few_out h).2.2.2
 have HSM : Hid (∀ W, Below w.heap.size w W → Calls Tryz.prog 14 #[.agg #[rv, zv, lv], .agg #[rv2, zv2, lv2]] W fun e w' => e = .returned (.bool (decide (S = S2))) ∧ Below W.heap.size W w') := Lib.hid fun W hW => same_any rv zv lv S Z rv2 zv2 lv2 S2 Z2 W (hs.below hW) (hs2.below hW)
 have HRU : Hid (fewB S = true → ∀ W, Below w.heap.size w W → Calls Tryz.prog 25 #[.agg #[rv, zv, lv], .string N] W fun e w' => (∃ v, e = .returned v ∧ RdRu w' v (rulM S (bsO N))) ∧ Below W.heap.size W w') := Lib.hid fun h W hW => rulesOf_any rv zv lv S Z N W (hs.below hW) (few_out h).2.2.2 (HG.out.below hW) hcz hcl
 have HRR : Hid (fewB S = true → ∀ W, Below w.heap.size w W → Calls Tryz.prog 27 #[.agg #[rv, zv, lv], .string N] W fun e w' => (∃ v, e = .returned v ∧ RdRu w' v (S.ru.filter fun r => r.nm == bsO N)) ∧ Below W.heap.size W w') := Lib.hid fun h W hW => (rules19_any rv zv lv S.ru N W (hs.ru.below hW) (by have := (few_out h).1; omega)).mono fun e w' q => by
  obtain ⟨⟨v, h1, h2⟩, h3⟩ := q
  exact ⟨⟨v, h1, h2.rd flRu_len (Nat.le_trans (List.length_filter_le _ _) (by have := (few_out h).1; omega))⟩, h3⟩
 have HER : Hid (∀ (M : List RuT) u v (W : World), RdRu W u M → RdRu W v M → Calls Tryz.prog 26 #[u, v] W fun e w' => e = .returned (.bool true) ∧ Below W.heap.size W w') := Lib.hid fun M u v W h1 h2 => by
  have q := eq_rule u v M M W h1 h2
  rw [decide_eq_true rfl] at q
  exact q
 obtain ⟨zq, hzq⟩ : ∃ q, zonM S (bsO N) = q := ⟨_, rfl⟩
 rw [hzq] at HZP HZR
 obtain ⟨⟨zn, zli⟩, ze⟩ := zq
 obtain ⟨ZN, rfl⟩ := bs_of zn
 have HZP : Hid (fewB S = true → ∀ W, Below w.heap.size w W → Calls Tryz.prog 20 #[.agg #[rv, zv, lv], .string N] W fun e w' => (∃ v, e = .returned (.tuple #[.agg #[.string ZN, v], .int .i64 ze]) ∧ RdLi w' v zli) ∧ Below W.heap.size W w') := HZP
 have HZR : Hid (fewB S = true → ∀ W, Below w.heap.size w W → Calls Tryz.prog 21 #[.agg #[rv, zv, lv], .string N] W fun e w' => (∃ v, e = .returned (.tuple #[.agg #[.string ZN, v], .int .i64 ze]) ∧ RdLi w' v zli) ∧ Below W.heap.size W w') := HZR
 obtain ⟨RL, hRL⟩ : ∃ q, rulM S (bsO N) = q := ⟨_, rfl⟩
 rw [hRL] at HRU
 obtain ⟨f1, hf1⟩ : ∃ q, fewB S = q := ⟨_, rfl⟩
 obtain ⟨f2, hf2⟩ : ∃ q, fewB S2 = q := ⟨_, rfl⟩
 rw [hf1] at HF1 HZP HZR HEQ HV1 HRU HRR
 rw [hf2] at HF2 HEQ HV2
 obtain ⟨p1, hp1⟩ : ∃ q, validB S = q := ⟨_, rfl⟩
 obtain ⟨p2, hp2⟩ : ∃ q, validB S2 = q := ⟨_, rfl⟩
 obtain ⟨dd, hdd⟩ : ∃ q, decide (S = S2) = q := ⟨_, rfl⟩
 rw [hp1] at HEQ HV1
 rw [hp2] at HEQ HV2
 rw [hdd] at HEQ HSM
 have HRL : Hid (RL = if p1 = true then S.ru.filter (fun r => r.nm == bsO N) else []) := Lib.hid (by rw [← hRL, ← hp1]; rfl)
 obtain ⟨ra, rc, rfl⟩ := hs.ru.form
 obtain ⟨za, zc, rfl⟩ := hs.zo.row.form
 obtain ⟨la, lc, rfl⟩ := hs.lk.form
 obtain ⟨ra2, rc2, rfl⟩ := hs2.ru.form
 obtain ⟨za2, zc2, rfl⟩ := hs2.zo.row.form
 obtain ⟨la2, lc2, rfl⟩ := hs2.lk.form
 clear hs hs2 hg hcz hcl hcz2 hcl2 hzq hRL hf1 hf2 hp1 hp2 hdd HG HS
 go_enter Tryz.func5, Tryz.ntmps5
 go_upto_region 1 with fail
 obtain ⟨bx, hbx⟩ : ∃ b, w.heap.size = b := ⟨_, rfl⟩
 obtain ⟨by2, hby⟩ : ∃ b, w.heap.size + 1 = b := ⟨_, rfl⟩
 obtain ⟨X, hX⟩ : ∃ Y, (w.alloc (.cells #[.slice ra S.ru.length rc, .slice za Z.length zc, .slice la S.lk.length lc] 27)).alloc (.cells #[.slice ra2 S2.ru.length rc2, .slice za2 Z2.length zc2, .slice la2 S2.lk.length lc2] 27) = Y := ⟨_, rfl⟩
 have HBX : Hid (Below w.heap.size w X) := Lib.hid (by rw [← hX]; exact ((Below.refl _ _).alloc (Nat.le_refl _) _).alloc (by simp) _)
 have HK1 : Hid (Blk X bx #[.slice ra S.ru.length rc, .slice za Z.length zc, .slice la S.lk.length lc] 27) := Lib.hid (by rw [← hX, ← hbx]; exact (Blk.new _ _ _).below ((Below.refl _ _).alloc (Nat.le_refl _) _))
 have HK2 : Hid (Blk X by2 #[.slice ra2 S2.ru.length rc2, .slice za2 Z2.length zc2, .slice la2 S2.lk.length lc2] 27) := Lib.hid (by
  rw [← hX, ← hby]
  have q := Blk.new (w.alloc (.cells #[.slice ra S.ru.length rc, .slice za Z.length zc, .slice la S.lk.length lc] 27)) #[.slice ra2 S2.ru.length rc2, .slice za2 Z2.length zc2, .slice la2 S2.lk.length lc2] 27
  simpa using q)
 have HK : Hid (∀ W, Below X.heap.size X W → (W.cell? ⟨bx, 0, none⟩ = some (.slice ra S.ru.length rc) ∧ W.cell? ⟨bx, 1, none⟩ = some (.slice za Z.length zc) ∧ W.cell? ⟨bx, 2, none⟩ = some (.slice la S.lk.length lc)) ∧ W.cell? ⟨by2, 0, none⟩ = some (.slice ra2 S2.ru.length rc2) ∧ W.cell? ⟨by2, 1, none⟩ = some (.slice za2 Z2.length zc2) ∧ W.cell? ⟨by2, 2, none⟩ = some (.slice la2 S2.lk.length lc2)) := Lib.hid fun W hW =>
  ⟨⟨(HK1.out.below hW).cell (j := 0) rfl, (HK1.out.below hW).cell (j := 1) rfl, (HK1.out.below hW).cell (j := 2) rfl⟩, (HK2.out.below hW).cell (j := 0) rfl, (HK2.out.below hW).cell (j := 1) rfl, (HK2.out.below hW).cell (j := 2) rfl⟩
 try rw [hX]
 try rw [hby]
 try rw [hbx]
 clear hX hbx hby HK1 HK2
 have HB0 : Hid (Below X.heap.size X X) := Lib.hid (Below.refl _ _)
 go_upto_region 3 with (first | (go_at_call 11; with_reducible refine (HAW.out _ (keepBelow HBX.out HB0.out)).mono ?_; rintro e w1 ⟨rfl, hb1⟩; obtain ⟨W1, hW1⟩ : ∃ W, w1 = W := ⟨_, rfl⟩; rw [hW1] at hb1 ⊢; clear hW1; have HB1 : Hid (Below X.heap.size X W1) := Lib.hid (keepBelow HB0.out hb1); clear hb1; obtain ⟨⟨y10, y11, y12⟩, y13, y14, y15⟩ := HK.out _ HB1.out) | fail)
 have hze : (ze != ze) = false := by simp
 cases f1 with
 | false =>
  go_wp2_with (first | (go_at_call 19; with_reducible refine (HF1.out _ (keepBelow HBX.out HB1.out)).mono ?_; rintro e w2 ⟨rfl, hb2⟩; obtain ⟨W2, hW2⟩ : ∃ W, w2 = W := ⟨_, rfl⟩; rw [hW2] at hb2 ⊢; clear hW2; have HB2 : Hid (Below X.heap.size X W2) := Lib.hid (keepBelow HB1.out hb2); clear hb2; obtain ⟨⟨y20, y21, y22⟩, y23, y24, y25⟩ := HK.out _ HB2.out) | fail)
  go_ret
  exact ⟨rfl, keepBelow HBX.out HB2.out⟩
 | true =>
 cases f2 with
 | false =>
  go_wp2_with (first | (go_at_call 19; with_reducible refine (HF1.out _ (keepBelow HBX.out HB1.out)).mono ?_; rintro e w2 ⟨rfl, hb2⟩; obtain ⟨W2, hW2⟩ : ∃ W, w2 = W := ⟨_, rfl⟩; rw [hW2] at hb2 ⊢; clear hW2; have HB2 : Hid (Below X.heap.size X W2) := Lib.hid (keepBelow HB1.out hb2); clear hb2; obtain ⟨⟨y20, y21, y22⟩, y23, y24, y25⟩ := HK.out _ HB2.out) | (go_at_call 19; with_reducible refine (HF2.out _ (keepBelow HBX.out HB2.out)).mono ?_; rintro e w3 ⟨rfl, hb3⟩; obtain ⟨W3, hW3⟩ : ∃ W, w3 = W := ⟨_, rfl⟩; rw [hW3] at hb3 ⊢; clear hW3; have HB3 : Hid (Below X.heap.size X W3) := Lib.hid (keepBelow HB2.out hb3); clear hb3; obtain ⟨⟨y30, y31, y32⟩, y33, y34, y35⟩ := HK.out _ HB3.out) | fail)
  go_ret
  exact ⟨rfl, keepBelow HBX.out HB3.out⟩
 | true =>
 have HZP2 := Lib.hid (HZP.out rfl)
 have HZR2 := Lib.hid (HZR.out rfl)
 have HEQ2 := Lib.hid (HEQ.out ⟨rfl, rfl⟩)
 have HV12 := Lib.hid (HV1.out rfl)
 have HV22 := Lib.hid (HV2.out rfl)
 have HRU2 := Lib.hid (HRU.out rfl)
 have HRR2 := Lib.hid (HRR.out rfl)
 clear HZP HZR HEQ HV1 HV2 HRU HRR
 by_cases hn : (60 : Int) < N.size
 ·go_wp2_with (first | (go_at_call 19; with_reducible refine (HF1.out _ (keepBelow HBX.out HB1.out)).mono ?_; rintro e w2 ⟨rfl, hb2⟩; obtain ⟨W2, hW2⟩ : ∃ W, w2 = W := ⟨_, rfl⟩; rw [hW2] at hb2 ⊢; clear hW2; have HB2 : Hid (Below X.heap.size X W2) := Lib.hid (keepBelow HB1.out hb2); clear hb2; obtain ⟨⟨y20, y21, y22⟩, y23, y24, y25⟩ := HK.out _ HB2.out) | (go_at_call 19; with_reducible refine (HF2.out _ (keepBelow HBX.out HB2.out)).mono ?_; rintro e w3 ⟨rfl, hb3⟩; obtain ⟨W3, hW3⟩ : ∃ W, w3 = W := ⟨_, rfl⟩; rw [hW3] at hb3 ⊢; clear hW3; have HB3 : Hid (Below X.heap.size X W3) := Lib.hid (keepBelow HB2.out hb3); clear hb3; obtain ⟨⟨y30, y31, y32⟩, y33, y34, y35⟩ := HK.out _ HB3.out) | fail)
  go_ret
  exact ⟨rfl, keepBelow HBX.out HB3.out⟩
 go_upto_region 5 with (first | (go_at_call 19; with_reducible refine (HF1.out _ (keepBelow HBX.out HB1.out)).mono ?_; rintro e w2 ⟨rfl, hb2⟩; obtain ⟨W2, hW2⟩ : ∃ W, w2 = W := ⟨_, rfl⟩; rw [hW2] at hb2 ⊢; clear hW2; have HB2 : Hid (Below X.heap.size X W2) := Lib.hid (keepBelow HB1.out hb2); clear hb2; obtain ⟨⟨y20, y21, y22⟩, y23, y24, y25⟩ := HK.out _ HB2.out) | (go_at_call 19; with_reducible refine (HF2.out _ (keepBelow HBX.out HB2.out)).mono ?_; rintro e w3 ⟨rfl, hb3⟩; obtain ⟨W3, hW3⟩ : ∃ W, w3 = W := ⟨_, rfl⟩; rw [hW3] at hb3 ⊢; clear hW3; have HB3 : Hid (Below X.heap.size X W3) := Lib.hid (keepBelow HB2.out hb3); clear hb3; obtain ⟨⟨y30, y31, y32⟩, y33, y34, y35⟩ := HK.out _ HB3.out) | fail)
 clear y10 y11 y12 y13 y14 y15
 clear y20 y21 y22 y23 y24 y25
 clear HAW HF1 HF2 hn
 go_upto_region 6 with (first | (go_at_call 20; with_reducible refine (HZP2.out _ (keepBelow HBX.out HB3.out)).mono ?_; rintro e w4 ⟨⟨v4, rfl, hr4⟩, hb4⟩; obtain ⟨W4, hW4⟩ : ∃ W, w4 = W := ⟨_, rfl⟩; rw [hW4] at hr4 hb4 ⊢; clear hW4; have HB4 : Hid (Below X.heap.size X W4) := Lib.hid (keepBelow HB3.out hb4); clear hb4; obtain ⟨a4, c4, rfl⟩ := hr4.form; have HR4 := Lib.hid hr4; clear hr4; obtain ⟨⟨y40, y41, y42⟩, y43, y44, y45⟩ := HK.out _ HB4.out) | fail)
 obtain ⟨b7, hb7⟩ : ∃ b, W4.heap.size = b := ⟨_, rfl⟩
 obtain ⟨Y4, hY4⟩ : ∃ Y, W4.alloc (.cells #[.string ZN, .slice a4 zli.length c4] 45) = Y := ⟨_, rfl⟩
 have HZ4 : Hid (Blk Y4 b7 #[.string ZN, .slice a4 zli.length c4] 45) := Lib.hid (by rw [← hY4, ← hb7]; exact Blk.new _ _ _)
 have HBW4 : Hid (Below W4.heap.size W4 Y4) := Lib.hid (by rw [← hY4]; exact (Below.refl _ _).alloc (Nat.le_refl _) _)
 have HBY4 : Hid (Below X.heap.size X Y4) := Lib.hid (keepBelow HB4.out HBW4.out)
 try rw [hY4]
 try rw [hb7]
 clear hY4 hb7
 clear y40 y41 y42 y43 y44 y45
 obtain ⟨⟨y40, y41, y42⟩, y43, y44, y45⟩ := HK.out _ HBY4.out
 clear y30 y31 y32 y33 y34 y35
 go_upto_region 7 with (first | (go_at_call 21; with_reducible refine (HZR2.out _ (keepBelow HBX.out HBY4.out)).mono ?_; rintro e w5 ⟨⟨v5, rfl, hr5⟩, hb5⟩; obtain ⟨W5, hW5⟩ : ∃ W, w5 = W := ⟨_, rfl⟩; rw [hW5] at hr5 hb5 ⊢; clear hW5; have HB5 : Hid (Below X.heap.size X W5) := Lib.hid (keepBelow HBY4.out hb5); have HBC5 := Lib.hid hb5; clear hb5; obtain ⟨a5, c5, rfl⟩ := hr5.form; have HR5 := Lib.hid hr5; clear hr5; obtain ⟨⟨y50, y51, y52⟩, y53, y54, y55⟩ := HK.out _ HB5.out) | fail)
 obtain ⟨b9, hb9⟩ : ∃ b, W5.heap.size = b := ⟨_, rfl⟩
 obtain ⟨Y5, hY5⟩ : ∃ Y, W5.alloc (.cells #[.string ZN, .slice a5 zli.length c5] 45) = Y := ⟨_, rfl⟩
 have HZ5 : Hid (Blk Y5 b9 #[.string ZN, .slice a5 zli.length c5] 45) := Lib.hid (by rw [← hY5, ← hb9]; exact Blk.new _ _ _)
 have HBW5 : Hid (Below W5.heap.size W5 Y5) := Lib.hid (by rw [← hY5]; exact (Below.refl _ _).alloc (Nat.le_refl _) _)
 have HBY5 : Hid (Below X.heap.size X Y5) := Lib.hid (keepBelow HB5.out HBW5.out)
 try rw [hY5]
 try rw [hb9]
 clear hY5 hb9
 clear y50 y51 y52 y53 y54 y55
 obtain ⟨⟨y50, y51, y52⟩, y53, y54, y55⟩ := HK.out _ HBY5.out
 clear y40 y41 y42 y43 y44 y45
 clear y50 y51 y52 y53 y54 y55
 have HALL : Hid (∀ W, Below Y5.heap.size Y5 W → (W.cell? ⟨bx, 0, none⟩ = some (.slice ra S.ru.length rc) ∧ W.cell? ⟨bx, 1, none⟩ = some (.slice za Z.length zc) ∧ W.cell? ⟨bx, 2, none⟩ = some (.slice la S.lk.length lc)) ∧ (W.cell? ⟨by2, 0, none⟩ = some (.slice ra2 S2.ru.length rc2) ∧ W.cell? ⟨by2, 1, none⟩ = some (.slice za2 Z2.length zc2) ∧ W.cell? ⟨by2, 2, none⟩ = some (.slice la2 S2.lk.length lc2)) ∧ (W.cell? ⟨b7, 0, none⟩ = some (.string ZN) ∧ W.cell? ⟨b7, 1, none⟩ = some (.slice a4 zli.length c4)) ∧ W.cell? ⟨b9, 0, none⟩ = some (.string ZN) ∧ W.cell? ⟨b9, 1, none⟩ = some (.slice a5 zli.length c5)) := Lib.hid fun W hW =>
  ⟨(HK.out W (keepBelow HBY5.out hW)).1, (HK.out W (keepBelow HBY5.out hW)).2, ⟨(((HZ4.out.below HBC5.out).below HBW5.out).below hW).cell (j := 0) rfl, (((HZ4.out.below HBC5.out).below HBW5.out).below hW).cell (j := 1) rfl⟩, (HZ5.out.below hW).cell (j := 0) rfl, (HZ5.out.below hW).cell (j := 1) rfl⟩
 have HRL4 := Lib.hid (((HR4.out.below HBW4.out).below HBC5.out).below HBW5.out)
 have HRL5 := Lib.hid (HR5.out.below HBW5.out)
 have HY5 := Lib.hid (keepBelow HBX.out HBY5.out)
 clear HB0 HB1 HB2 HB3 HB4 HB5 HBY4 HBY5 HBX HBW4 HBW5 HBC5 HZ4 HZ5 HR4 HR5 HZP2 HZR2 HK
 have HBD : Hid (Below Y5.heap.size Y5 Y5.drew) := Lib.hid (Below.refl _ _).drew
 cases p1 with
 | false =>
  refine wp_region_held_drew (S := fun W => (W.cell? ⟨bx, 0, none⟩ = some (.slice ra S.ru.length rc) ∧ W.cell? ⟨bx, 1, none⟩ = some (.slice za Z.length zc) ∧ W.cell? ⟨bx, 2, none⟩ = some (.slice la S.lk.length lc)) ∧ (W.cell? ⟨by2, 0, none⟩ = some (.slice ra2 S2.ru.length rc2) ∧ W.cell? ⟨by2, 1, none⟩ = some (.slice za2 Z2.length zc2) ∧ W.cell? ⟨by2, 2, none⟩ = some (.slice la2 S2.lk.length lc2)) ∧ (W.cell? ⟨b7, 0, none⟩ = some (.string ZN) ∧ W.cell? ⟨b7, 1, none⟩ = some (.slice a4 zli.length c4)) ∧ W.cell? ⟨b9, 0, none⟩ = some (.string ZN) ∧ W.cell? ⟨b9, 1, none⟩ = some (.slice a5 zli.length c5)) (by kernel_rfl) ?_ (fun hHeld => ?_)
  ·exact HALL.out _ HBD.out
  go_simp
  refine wpAnyH_take (i := 0) (v := ?v1) rfl (by kernel_rfl) (by kernel_rfl) (by kernel_rfl) (fun _ _ _ h => h) (Or.inl ⟨by rfl, ?hy1⟩) (by assumption) ?rest1
  case hy1 =>
   intro w hSw
   try dsimp only at hSw
   go_simp
   try with_reducible rfl
  case rest1 =>
  go_simp
  refine wpAnyH_take (i := 1) (v := ?v2) rfl (by kernel_rfl) (by kernel_rfl) (by kernel_rfl) (fun _ _ _ h => h) (Or.inl ⟨by rfl, ?hy2⟩) (by assumption) ?rest2
  case hy2 =>
   intro w hSw
   try dsimp only at hSw
   go_simp
   try with_reducible rfl
  case rest2 =>
  refine wpAnyH_ready (rs := [2]) (by kernel_rfl) (by simp) ?_
  refine AllReadyH.cons rfl (fun K hK => ?_) AllReadyH.nil
  go_simp
  go_at_call 22
  refine (HSZ.out _ zli _ _ _ (HRL4.out.below HBD.out) (HRL5.out.below HBD.out)).mono ?_
  rintro e w6 ⟨rfl, hb6⟩
  have HB6 : Hid (Below Y5.heap.size Y5 w6) := Lib.hid (keepBelow HBD.out hb6)
  clear hb6
  refine hK.out _ _ ?_ (fun hHeld => ?_)
  ·exact HALL.out _ HB6.out
  clear hK K
  go_simp
  refine wpAnyH_take (i := 3) (v := ?v3) rfl (by kernel_rfl) (by kernel_rfl) (by kernel_rfl) (fun _ _ _ h => h) (Or.inl ⟨by rfl, ?hy3⟩) (by assumption) ?rest3
  case hy3 =>
   intro w hSw
   try dsimp only at hSw
   go_simp
   try with_reducible rfl
  case rest3 =>
  go_simp
  refine wpAnyH_take (i := 4) (v := ?v4) rfl (by kernel_rfl) (by kernel_rfl) (by kernel_rfl) (fun _ _ _ h => h) (Or.inl ⟨by rfl, ?hy4⟩) (by assumption) ?rest4
  case hy4 =>
   intro w hSw
   try dsimp only at hSw
   go_simp
   try with_reducible rfl
  case rest4 =>
  go_simp
  refine wpAnyH_take (i := 5) (v := ?v5) rfl (by kernel_rfl) (by kernel_rfl) (by kernel_rfl) (fun _ _ _ h => h) (Or.inl ⟨by rfl, ?hy5⟩) (by assumption) ?rest5
  case hy5 =>
   intro w hSw
   try dsimp only at hSw
   go_simp
   try with_reducible rfl
  case rest5 =>
  go_simp
  refine wpAnyH_take (i := 6) (v := ?v6) rfl (by kernel_rfl) (by kernel_rfl) (by kernel_rfl) (fun _ _ _ h => h) (Or.inl ⟨by rfl, ?hy6⟩) (by assumption) ?rest6
  case hy6 =>
   intro w hSw
   try dsimp only at hSw
   go_simp
   try with_reducible rfl
  case rest6 =>
  go_simp
  refine wpAnyH_take (i := 7) (v := ?v7) rfl (by kernel_rfl) (by kernel_rfl) (by kernel_rfl) (fun _ _ _ h => h) (Or.inl ⟨by rfl, ?hy7⟩) (by assumption) ?rest7
  case hy7 =>
   intro w hSw
   try dsimp only at hSw
   go_simp
   try with_reducible rfl
  case rest7 =>
  go_simp
  refine wpAnyH_take (i := 8) (v := ?v8) rfl (by kernel_rfl) (by kernel_rfl) (by kernel_rfl) (fun _ _ _ h => h) (Or.inl ⟨by rfl, ?hy8⟩) (by assumption) ?rest8
  case hy8 =>
   intro w hSw
   try dsimp only at hSw
   go_simp
   try with_reducible rfl
  case rest8 =>
  go_simp
  refine wpAnyH_take (i := 9) (v := ?v9) rfl (by kernel_rfl) (by kernel_rfl) (by kernel_rfl) (fun _ _ _ h => h) (Or.inl ⟨by rfl, ?hy9⟩) (by assumption) ?rest9
  case hy9 =>
   intro w hSw
   try dsimp only at hSw
   go_simp
   try with_reducible rfl
  case rest9 =>
  go_simp
  refine wpAnyH_take (i := 10) (v := ?v10) rfl (by kernel_rfl) (by kernel_rfl) (by kernel_rfl) (fun _ _ _ h => h) (Or.inl ⟨by rfl, ?hy10⟩) (by assumption) ?rest10
  case hy10 =>
   intro w hSw
   try dsimp only at hSw
   go_simp
   try with_reducible rfl
  case rest10 =>
  go_simp
  refine wpAnyH_take (i := 11) (v := ?v11) rfl (by kernel_rfl) (by kernel_rfl) (by kernel_rfl) (fun _ _ _ h => h) (Or.inl ⟨by rfl, ?hy11⟩) (by assumption) ?rest11
  case hy11 =>
   intro w hSw
   try dsimp only at hSw
   go_simp
   try with_reducible rfl
  case rest11 =>
  go_simp
  refine wpAnyH_take (i := 13) (v := ?v12) rfl (by kernel_rfl) (by kernel_rfl) (by kernel_rfl) (fun _ _ _ h => h) (Or.inl ⟨by rfl, ?hy12⟩) (by assumption) ?rest12
  case hy12 =>
   intro w hSw
   try dsimp only at hSw
   go_simp
   try with_reducible rfl
  case rest12 =>
  refine wpAnyH_ready (rs := [12]) (by kernel_rfl) (by simp) ?_
  refine AllReadyH.cons rfl (fun K hK => ?_) AllReadyH.nil
  go_simp
  go_at_call 23
  refine (HEQ2.out _ (keepBelow HY5.out HB6.out)).mono ?_
  rintro e w7 ⟨rfl, hb7⟩
  have HB7 : Hid (Below Y5.heap.size Y5 w7) := Lib.hid (keepBelow HB6.out hb7)
  clear hb7
  refine hK.out _ _ ?_ (fun hHeld => ?_)
  ·exact HALL.out _ HB7.out
  clear hK K
  refine wpAnyH_ready (rs := [14]) (by kernel_rfl) (by simp) ?_
  refine AllReadyH.cons rfl (fun K hK => ?_) AllReadyH.nil
  go_simp
  go_at_call 24
  refine (HV12.out _ (keepBelow HY5.out HB7.out)).mono ?_
  rintro e w8 ⟨rfl, hb8⟩
  have HB8 : Hid (Below Y5.heap.size Y5 w8) := Lib.hid (keepBelow HB7.out hb8)
  clear hb8
  refine hK.out _ _ ?_ (fun hHeld => ?_)
  ·exact HALL.out _ HB8.out
  clear hK K
  go_simp
  refine wpAnyH_take (i := 15) (v := ?v13) rfl (by kernel_rfl) (by kernel_rfl) (by kernel_rfl) (fun _ _ _ h => h) (Or.inl ⟨by rfl, ?hy13⟩) (by assumption) ?rest13
  case hy13 =>
   intro w hSw
   try dsimp only at hSw
   go_simp
   try with_reducible rfl
  case rest13 =>
  go_simp
  refine wpAnyH_take (i := 16) (v := undef) rfl (by kernel_rfl) (by kernel_rfl) (by kernel_rfl) (fun _ _ _ h => h) (Or.inr ⟨by rfl, rfl⟩) (by assumption) ?rest14
  case rest14 =>
  go_simp
  refine wpAnyH_take (i := 17) (v := undef) rfl (by kernel_rfl) (by kernel_rfl) (by kernel_rfl) (fun _ _ _ h => h) (Or.inr ⟨by rfl, rfl⟩) (by assumption) ?rest15
  case rest15 =>
  go_simp
  refine wpAnyH_take (i := 18) (v := ?v16) rfl (by kernel_rfl) (by kernel_rfl) (by kernel_rfl) (fun _ _ _ h => h) (Or.inl ⟨by rfl, ?hy16⟩) (by assumption) ?rest16
  case hy16 =>
   intro w hSw
   try dsimp only at hSw
   go_simp
   try with_reducible rfl
  case rest16 =>
  go_simp
  refine wpAnyH_take (i := 19) (v := ?v17) rfl (by kernel_rfl) (by kernel_rfl) (by kernel_rfl) (fun _ _ _ h => h) (Or.inl ⟨by rfl, ?hy17⟩) (by assumption) ?rest17
  case hy17 =>
   intro w hSw
   try dsimp only at hSw
   go_simp
   try with_reducible rfl
  case rest17 =>
  go_simp
  refine wpAnyH_take (i := 20) (v := undef) rfl (by kernel_rfl) (by kernel_rfl) (by kernel_rfl) (fun _ _ _ h => h) (Or.inr ⟨by rfl, rfl⟩) (by assumption) ?rest18
  case rest18 =>
  go_simp
  refine wpAnyH_take (i := 21) (v := undef) rfl (by kernel_rfl) (by kernel_rfl) (by kernel_rfl) (fun _ _ _ h => h) (Or.inr ⟨by rfl, rfl⟩) (by assumption) ?rest19
  case rest19 =>
  go_simp
  refine wpAnyH_take (i := 22) (v := undef) rfl (by kernel_rfl) (by kernel_rfl) (by kernel_rfl) (fun _ _ _ h => h) (Or.inr ⟨by rfl, rfl⟩) (by assumption) ?rest20
  case rest20 =>
  go_simp
  refine wpAnyH_take (i := 23) (v := ?v21) rfl (by kernel_rfl) (by kernel_rfl) (by kernel_rfl) (fun _ _ _ h => h) (Or.inl ⟨by rfl, ?hy21⟩) (by assumption) ?rest21
  case hy21 =>
   intro w hSw
   try dsimp only at hSw
   go_simp
   try with_reducible rfl
  case rest21 =>
  go_simp
  refine wpAnyH_take (i := 24) (v := ?v22) rfl (by kernel_rfl) (by kernel_rfl) (by kernel_rfl) (fun _ _ _ h => h) (Or.inl ⟨by rfl, ?hy22⟩) (by assumption) ?rest22
  case hy22 =>
   intro w hSw
   try dsimp only at hSw
   go_simp
   try with_reducible rfl
  case rest22 =>
  go_simp
  refine wpAnyH_take (i := 25) (v := ?v23) rfl (by kernel_rfl) (by kernel_rfl) (by kernel_rfl) (fun _ _ _ h => h) (Or.inl ⟨by rfl, ?hy23⟩) (by assumption) ?rest23
  case hy23 =>
   intro w hSw
   try dsimp only at hSw
   go_simp
   try with_reducible rfl
  case rest23 =>
  refine wpAnyH_done (by kernel_rfl) ?_ _
  go_simp
  obtain ⟨V, hV⟩ : ∃ W, w8 = W := ⟨_, rfl⟩
  have HBV : Hid (Below Y5.heap.size Y5 V) := Lib.hid (by rw [← hV]; exact HB8.out)
  rw [hV]
  clear hV
  obtain ⟨⟨y0, y1, y2⟩, -⟩ := HALL.out _ HBV.out
  go_upto_region 10 with (first | (go_at_call 25; refine (HRU2.out _ (keepBelow HY5.out HBV.out)).mono ?_; rintro e v11 ⟨⟨u11, rfl, hr11⟩, hb11⟩; obtain ⟨V2, hV2⟩ : ∃ W, v11 = W := ⟨_, rfl⟩; rw [hV2] at hr11 hb11 ⊢; clear hV2; obtain ⟨a11, c11, rfl⟩ := hr11.form; have HR11 := Lib.hid hr11; have HB11 := Lib.hid (keepBelow HBV.out hb11); clear hr11 hb11) | fail)
  clear y0 y1 y2
  obtain ⟨⟨y0, y1, y2⟩, -⟩ := HALL.out _ HB11.out
  have hRL : RL = [] := by rw [HRL.out, if_neg (by simp)]
  subst hRL
  go_wp2_with (first | (go_at_call 24; refine (HV12.out _ (keepBelow HY5.out HB11.out)).mono ?_; rintro e v12 ⟨rfl, hb12⟩; obtain ⟨V3, hV3⟩ : ∃ W, v12 = W := ⟨_, rfl⟩; rw [hV3] at hb12 ⊢; clear hV3; have HB12 := Lib.hid (keepBelow HB11.out hb12); have HR12 := Lib.hid (HR11.out.below hb12); clear hb12) | fail)
  go_ret
  exact ⟨rfl, keepBelow HY5.out HB12.out⟩
 | true =>
 cases p2 with
 | false =>
  refine wp_region_held_drew (S := fun W => (W.cell? ⟨bx, 0, none⟩ = some (.slice ra S.ru.length rc) ∧ W.cell? ⟨bx, 1, none⟩ = some (.slice za Z.length zc) ∧ W.cell? ⟨bx, 2, none⟩ = some (.slice la S.lk.length lc)) ∧ (W.cell? ⟨by2, 0, none⟩ = some (.slice ra2 S2.ru.length rc2) ∧ W.cell? ⟨by2, 1, none⟩ = some (.slice za2 Z2.length zc2) ∧ W.cell? ⟨by2, 2, none⟩ = some (.slice la2 S2.lk.length lc2)) ∧ (W.cell? ⟨b7, 0, none⟩ = some (.string ZN) ∧ W.cell? ⟨b7, 1, none⟩ = some (.slice a4 zli.length c4)) ∧ W.cell? ⟨b9, 0, none⟩ = some (.string ZN) ∧ W.cell? ⟨b9, 1, none⟩ = some (.slice a5 zli.length c5)) (by kernel_rfl) ?_ (fun hHeld => ?_)
  ·exact HALL.out _ HBD.out
  go_simp
  refine wpAnyH_take (i := 0) (v := ?v24) rfl (by kernel_rfl) (by kernel_rfl) (by kernel_rfl) (fun _ _ _ h => h) (Or.inl ⟨by rfl, ?hy24⟩) (by assumption) ?rest24
  case hy24 =>
   intro w hSw
   try dsimp only at hSw
   go_simp
   try with_reducible rfl
  case rest24 =>
  go_simp
  refine wpAnyH_take (i := 1) (v := ?v25) rfl (by kernel_rfl) (by kernel_rfl) (by kernel_rfl) (fun _ _ _ h => h) (Or.inl ⟨by rfl, ?hy25⟩) (by assumption) ?rest25
  case hy25 =>
   intro w hSw
   try dsimp only at hSw
   go_simp
   try with_reducible rfl
  case rest25 =>
  refine wpAnyH_ready (rs := [2]) (by kernel_rfl) (by simp) ?_
  refine AllReadyH.cons rfl (fun K hK => ?_) AllReadyH.nil
  go_simp
  go_at_call 22
  refine (HSZ.out _ zli _ _ _ (HRL4.out.below HBD.out) (HRL5.out.below HBD.out)).mono ?_
  rintro e w6 ⟨rfl, hb6⟩
  have HB6 : Hid (Below Y5.heap.size Y5 w6) := Lib.hid (keepBelow HBD.out hb6)
  clear hb6
  refine hK.out _ _ ?_ (fun hHeld => ?_)
  ·exact HALL.out _ HB6.out
  clear hK K
  go_simp
  refine wpAnyH_take (i := 3) (v := ?v26) rfl (by kernel_rfl) (by kernel_rfl) (by kernel_rfl) (fun _ _ _ h => h) (Or.inl ⟨by rfl, ?hy26⟩) (by assumption) ?rest26
  case hy26 =>
   intro w hSw
   try dsimp only at hSw
   go_simp
   try with_reducible rfl
  case rest26 =>
  go_simp
  refine wpAnyH_take (i := 4) (v := ?v27) rfl (by kernel_rfl) (by kernel_rfl) (by kernel_rfl) (fun _ _ _ h => h) (Or.inl ⟨by rfl, ?hy27⟩) (by assumption) ?rest27
  case hy27 =>
   intro w hSw
   try dsimp only at hSw
   go_simp
   try with_reducible rfl
  case rest27 =>
  go_simp
  refine wpAnyH_take (i := 5) (v := ?v28) rfl (by kernel_rfl) (by kernel_rfl) (by kernel_rfl) (fun _ _ _ h => h) (Or.inl ⟨by rfl, ?hy28⟩) (by assumption) ?rest28
  case hy28 =>
   intro w hSw
   try dsimp only at hSw
   go_simp
   try with_reducible rfl
  case rest28 =>
  go_simp
  refine wpAnyH_take (i := 6) (v := ?v29) rfl (by kernel_rfl) (by kernel_rfl) (by kernel_rfl) (fun _ _ _ h => h) (Or.inl ⟨by rfl, ?hy29⟩) (by assumption) ?rest29
  case hy29 =>
   intro w hSw
   try dsimp only at hSw
   go_simp
   try with_reducible rfl
  case rest29 =>
  go_simp
  refine wpAnyH_take (i := 7) (v := ?v30) rfl (by kernel_rfl) (by kernel_rfl) (by kernel_rfl) (fun _ _ _ h => h) (Or.inl ⟨by rfl, ?hy30⟩) (by assumption) ?rest30
  case hy30 =>
   intro w hSw
   try dsimp only at hSw
   go_simp
   try with_reducible rfl
  case rest30 =>
  go_simp
  refine wpAnyH_take (i := 8) (v := ?v31) rfl (by kernel_rfl) (by kernel_rfl) (by kernel_rfl) (fun _ _ _ h => h) (Or.inl ⟨by rfl, ?hy31⟩) (by assumption) ?rest31
  case hy31 =>
   intro w hSw
   try dsimp only at hSw
   go_simp
   try with_reducible rfl
  case rest31 =>
  go_simp
  refine wpAnyH_take (i := 9) (v := ?v32) rfl (by kernel_rfl) (by kernel_rfl) (by kernel_rfl) (fun _ _ _ h => h) (Or.inl ⟨by rfl, ?hy32⟩) (by assumption) ?rest32
  case hy32 =>
   intro w hSw
   try dsimp only at hSw
   go_simp
   try with_reducible rfl
  case rest32 =>
  go_simp
  refine wpAnyH_take (i := 10) (v := ?v33) rfl (by kernel_rfl) (by kernel_rfl) (by kernel_rfl) (fun _ _ _ h => h) (Or.inl ⟨by rfl, ?hy33⟩) (by assumption) ?rest33
  case hy33 =>
   intro w hSw
   try dsimp only at hSw
   go_simp
   try with_reducible rfl
  case rest33 =>
  go_simp
  refine wpAnyH_take (i := 11) (v := ?v34) rfl (by kernel_rfl) (by kernel_rfl) (by kernel_rfl) (fun _ _ _ h => h) (Or.inl ⟨by rfl, ?hy34⟩) (by assumption) ?rest34
  case hy34 =>
   intro w hSw
   try dsimp only at hSw
   go_simp
   try with_reducible rfl
  case rest34 =>
  go_simp
  refine wpAnyH_take (i := 13) (v := ?v35) rfl (by kernel_rfl) (by kernel_rfl) (by kernel_rfl) (fun _ _ _ h => h) (Or.inl ⟨by rfl, ?hy35⟩) (by assumption) ?rest35
  case hy35 =>
   intro w hSw
   try dsimp only at hSw
   go_simp
   try with_reducible rfl
  case rest35 =>
  refine wpAnyH_ready (rs := [12]) (by kernel_rfl) (by simp) ?_
  refine AllReadyH.cons rfl (fun K hK => ?_) AllReadyH.nil
  go_simp
  go_at_call 23
  refine (HEQ2.out _ (keepBelow HY5.out HB6.out)).mono ?_
  rintro e w7 ⟨rfl, hb7⟩
  have HB7 : Hid (Below Y5.heap.size Y5 w7) := Lib.hid (keepBelow HB6.out hb7)
  clear hb7
  refine hK.out _ _ ?_ (fun hHeld => ?_)
  ·exact HALL.out _ HB7.out
  clear hK K
  refine wpAnyH_ready (rs := [14]) (by kernel_rfl) (by simp) ?_
  refine AllReadyH.cons rfl (fun K hK => ?_) AllReadyH.nil
  go_simp
  go_at_call 24
  refine (HV12.out _ (keepBelow HY5.out HB7.out)).mono ?_
  rintro e w8 ⟨rfl, hb8⟩
  have HB8 : Hid (Below Y5.heap.size Y5 w8) := Lib.hid (keepBelow HB7.out hb8)
  clear hb8
  refine hK.out _ _ ?_ (fun hHeld => ?_)
  ·exact HALL.out _ HB8.out
  clear hK K
  go_simp
  refine wpAnyH_take (i := 15) (v := ?v36) rfl (by kernel_rfl) (by kernel_rfl) (by kernel_rfl) (fun _ _ _ h => h) (Or.inl ⟨by rfl, ?hy36⟩) (by assumption) ?rest36
  case hy36 =>
   intro w hSw
   try dsimp only at hSw
   go_simp
   try with_reducible rfl
  case rest36 =>
  go_simp
  refine wpAnyH_take (i := 16) (v := ?v37) rfl (by kernel_rfl) (by kernel_rfl) (by kernel_rfl) (fun _ _ _ h => h) (Or.inl ⟨by rfl, ?hy37⟩) (by assumption) ?rest37
  case hy37 =>
   intro w hSw
   try dsimp only at hSw
   go_simp
   try with_reducible rfl
  case rest37 =>
  refine wpAnyH_ready (rs := [17]) (by kernel_rfl) (by simp) ?_
  refine AllReadyH.cons rfl (fun K hK => ?_) AllReadyH.nil
  go_simp
  go_at_call 24
  refine (HV22.out _ (keepBelow HY5.out HB8.out)).mono ?_
  rintro e w9 ⟨rfl, hb9⟩
  have HB9 : Hid (Below Y5.heap.size Y5 w9) := Lib.hid (keepBelow HB8.out hb9)
  clear hb9
  refine hK.out _ _ ?_ (fun hHeld => ?_)
  ·exact HALL.out _ HB9.out
  clear hK K
  go_simp
  refine wpAnyH_take (i := 18) (v := ?v38) rfl (by kernel_rfl) (by kernel_rfl) (by kernel_rfl) (fun _ _ _ h => h) (Or.inl ⟨by rfl, ?hy38⟩) (by assumption) ?rest38
  case hy38 =>
   intro w hSw
   try dsimp only at hSw
   go_simp
   try with_reducible rfl
  case rest38 =>
  go_simp
  refine wpAnyH_take (i := 19) (v := ?v39) rfl (by kernel_rfl) (by kernel_rfl) (by kernel_rfl) (fun _ _ _ h => h) (Or.inl ⟨by rfl, ?hy39⟩) (by assumption) ?rest39
  case hy39 =>
   intro w hSw
   try dsimp only at hSw
   go_simp
   try with_reducible rfl
  case rest39 =>
  go_simp
  refine wpAnyH_take (i := 20) (v := undef) rfl (by kernel_rfl) (by kernel_rfl) (by kernel_rfl) (fun _ _ _ h => h) (Or.inr ⟨by rfl, rfl⟩) (by assumption) ?rest40
  case rest40 =>
  go_simp
  refine wpAnyH_take (i := 21) (v := undef) rfl (by kernel_rfl) (by kernel_rfl) (by kernel_rfl) (fun _ _ _ h => h) (Or.inr ⟨by rfl, rfl⟩) (by assumption) ?rest41
  case rest41 =>
  go_simp
  refine wpAnyH_take (i := 22) (v := undef) rfl (by kernel_rfl) (by kernel_rfl) (by kernel_rfl) (fun _ _ _ h => h) (Or.inr ⟨by rfl, rfl⟩) (by assumption) ?rest42
  case rest42 =>
  go_simp
  refine wpAnyH_take (i := 23) (v := ?v43) rfl (by kernel_rfl) (by kernel_rfl) (by kernel_rfl) (fun _ _ _ h => h) (Or.inl ⟨by rfl, ?hy43⟩) (by assumption) ?rest43
  case hy43 =>
   intro w hSw
   try dsimp only at hSw
   go_simp
   try with_reducible rfl
  case rest43 =>
  go_simp
  refine wpAnyH_take (i := 24) (v := ?v44) rfl (by kernel_rfl) (by kernel_rfl) (by kernel_rfl) (fun _ _ _ h => h) (Or.inl ⟨by rfl, ?hy44⟩) (by assumption) ?rest44
  case hy44 =>
   intro w hSw
   try dsimp only at hSw
   go_simp
   try with_reducible rfl
  case rest44 =>
  go_simp
  refine wpAnyH_take (i := 25) (v := ?v45) rfl (by kernel_rfl) (by kernel_rfl) (by kernel_rfl) (fun _ _ _ h => h) (Or.inl ⟨by rfl, ?hy45⟩) (by assumption) ?rest45
  case hy45 =>
   intro w hSw
   try dsimp only at hSw
   go_simp
   try with_reducible rfl
  case rest45 =>
  refine wpAnyH_done (by kernel_rfl) ?_ _
  go_simp
  obtain ⟨V, hV⟩ : ∃ W, w9 = W := ⟨_, rfl⟩
  have HBV : Hid (Below Y5.heap.size Y5 V) := Lib.hid (by rw [← hV]; exact HB9.out)
  rw [hV]
  clear hV
  obtain ⟨⟨y0, y1, y2⟩, -⟩ := HALL.out _ HBV.out
  go_upto_region 10 with (first | (go_at_call 25; refine (HRU2.out _ (keepBelow HY5.out HBV.out)).mono ?_; rintro e v11 ⟨⟨u11, rfl, hr11⟩, hb11⟩; obtain ⟨V2, hV2⟩ : ∃ W, v11 = W := ⟨_, rfl⟩; rw [hV2] at hr11 hb11 ⊢; clear hV2; obtain ⟨a11, c11, rfl⟩ := hr11.form; have HR11 := Lib.hid hr11; have HB11 := Lib.hid (keepBelow HBV.out hb11); clear hr11 hb11) | fail)
  clear y0 y1 y2
  obtain ⟨⟨y0, y1, y2⟩, -⟩ := HALL.out _ HB11.out
  go_upto_region 12 with (first | (go_at_call 24; refine (HV12.out _ (keepBelow HY5.out HB11.out)).mono ?_; rintro e v12 ⟨rfl, hb12⟩; obtain ⟨V3, hV3⟩ : ∃ W, v12 = W := ⟨_, rfl⟩; rw [hV3] at hb12 ⊢; clear hV3; have HB12 := Lib.hid (keepBelow HB11.out hb12); have HR12 := Lib.hid (HR11.out.below hb12); clear hb12) | fail)
  clear y0 y1 y2
  obtain ⟨⟨y0, y1, y2⟩, -⟩ := HALL.out _ HB12.out
  have HRE : Hid (RL = S.ru.filter fun r => r.nm == bsO N) := Lib.hid (by rw [HRL.out]; simp)
  rw [← HRE.out] at HRR2
  go_wp2_with (first
   | (go_at_call 27; refine (HRR2.out _ (keepBelow HY5.out HB12.out)).mono ?_; rintro e v13 ⟨⟨u13, rfl, hr13⟩, hb13⟩; have HR13 := Lib.hid hr13; have HB13 := Lib.hid (keepBelow HB12.out hb13); have HRB := Lib.hid (HR12.out.below hb13); clear hr13 hb13)
   | (go_at_call 26; refine (HER.out RL _ _ _ HRB.out HR13.out).mono ?_; rintro e v14 ⟨rfl, hb14⟩; have HB14 := Lib.hid (keepBelow HB13.out hb14); clear hb14)
   | fail)
  go_ret
  exact ⟨rfl, keepBelow HY5.out HB14.out⟩
 | true =>
  refine wp_region_held_drew (S := fun W => (W.cell? ⟨bx, 0, none⟩ = some (.slice ra S.ru.length rc) ∧ W.cell? ⟨bx, 1, none⟩ = some (.slice za Z.length zc) ∧ W.cell? ⟨bx, 2, none⟩ = some (.slice la S.lk.length lc)) ∧ (W.cell? ⟨by2, 0, none⟩ = some (.slice ra2 S2.ru.length rc2) ∧ W.cell? ⟨by2, 1, none⟩ = some (.slice za2 Z2.length zc2) ∧ W.cell? ⟨by2, 2, none⟩ = some (.slice la2 S2.lk.length lc2)) ∧ (W.cell? ⟨b7, 0, none⟩ = some (.string ZN) ∧ W.cell? ⟨b7, 1, none⟩ = some (.slice a4 zli.length c4)) ∧ W.cell? ⟨b9, 0, none⟩ = some (.string ZN) ∧ W.cell? ⟨b9, 1, none⟩ = some (.slice a5 zli.length c5)) (by kernel_rfl) ?_ (fun hHeld => ?_)
  ·exact HALL.out _ HBD.out
  go_simp
  refine wpAnyH_take (i := 0) (v := ?v46) rfl (by kernel_rfl) (by kernel_rfl) (by kernel_rfl) (fun _ _ _ h => h) (Or.inl ⟨by rfl, ?hy46⟩) (by assumption) ?rest46
  case hy46 =>
   intro w hSw
   try dsimp only at hSw
   go_simp
   try with_reducible rfl
  case rest46 =>
  go_simp
  refine wpAnyH_take (i := 1) (v := ?v47) rfl (by kernel_rfl) (by kernel_rfl) (by kernel_rfl) (fun _ _ _ h => h) (Or.inl ⟨by rfl, ?hy47⟩) (by assumption) ?rest47
  case hy47 =>
   intro w hSw
   try dsimp only at hSw
   go_simp
   try with_reducible rfl
  case rest47 =>
  refine wpAnyH_ready (rs := [2]) (by kernel_rfl) (by simp) ?_
  refine AllReadyH.cons rfl (fun K hK => ?_) AllReadyH.nil
  go_simp
  go_at_call 22
  refine (HSZ.out _ zli _ _ _ (HRL4.out.below HBD.out) (HRL5.out.below HBD.out)).mono ?_
  rintro e w6 ⟨rfl, hb6⟩
  have HB6 : Hid (Below Y5.heap.size Y5 w6) := Lib.hid (keepBelow HBD.out hb6)
  clear hb6
  refine hK.out _ _ ?_ (fun hHeld => ?_)
  ·exact HALL.out _ HB6.out
  clear hK K
  go_simp
  refine wpAnyH_take (i := 3) (v := ?v48) rfl (by kernel_rfl) (by kernel_rfl) (by kernel_rfl) (fun _ _ _ h => h) (Or.inl ⟨by rfl, ?hy48⟩) (by assumption) ?rest48
  case hy48 =>
   intro w hSw
   try dsimp only at hSw
   go_simp
   try with_reducible rfl
  case rest48 =>
  go_simp
  refine wpAnyH_take (i := 4) (v := ?v49) rfl (by kernel_rfl) (by kernel_rfl) (by kernel_rfl) (fun _ _ _ h => h) (Or.inl ⟨by rfl, ?hy49⟩) (by assumption) ?rest49
  case hy49 =>
   intro w hSw
   try dsimp only at hSw
   go_simp
   try with_reducible rfl
  case rest49 =>
  go_simp
  refine wpAnyH_take (i := 5) (v := ?v50) rfl (by kernel_rfl) (by kernel_rfl) (by kernel_rfl) (fun _ _ _ h => h) (Or.inl ⟨by rfl, ?hy50⟩) (by assumption) ?rest50
  case hy50 =>
   intro w hSw
   try dsimp only at hSw
   go_simp
   try with_reducible rfl
  case rest50 =>
  go_simp
  refine wpAnyH_take (i := 6) (v := ?v51) rfl (by kernel_rfl) (by kernel_rfl) (by kernel_rfl) (fun _ _ _ h => h) (Or.inl ⟨by rfl, ?hy51⟩) (by assumption) ?rest51
  case hy51 =>
   intro w hSw
   try dsimp only at hSw
   go_simp
   try with_reducible rfl
  case rest51 =>
  go_simp
  refine wpAnyH_take (i := 7) (v := ?v52) rfl (by kernel_rfl) (by kernel_rfl) (by kernel_rfl) (fun _ _ _ h => h) (Or.inl ⟨by rfl, ?hy52⟩) (by assumption) ?rest52
  case hy52 =>
   intro w hSw
   try dsimp only at hSw
   go_simp
   try with_reducible rfl
  case rest52 =>
  go_simp
  refine wpAnyH_take (i := 8) (v := ?v53) rfl (by kernel_rfl) (by kernel_rfl) (by kernel_rfl) (fun _ _ _ h => h) (Or.inl ⟨by rfl, ?hy53⟩) (by assumption) ?rest53
  case hy53 =>
   intro w hSw
   try dsimp only at hSw
   go_simp
   try with_reducible rfl
  case rest53 =>
  go_simp
  refine wpAnyH_take (i := 9) (v := ?v54) rfl (by kernel_rfl) (by kernel_rfl) (by kernel_rfl) (fun _ _ _ h => h) (Or.inl ⟨by rfl, ?hy54⟩) (by assumption) ?rest54
  case hy54 =>
   intro w hSw
   try dsimp only at hSw
   go_simp
   try with_reducible rfl
  case rest54 =>
  go_simp
  refine wpAnyH_take (i := 10) (v := ?v55) rfl (by kernel_rfl) (by kernel_rfl) (by kernel_rfl) (fun _ _ _ h => h) (Or.inl ⟨by rfl, ?hy55⟩) (by assumption) ?rest55
  case hy55 =>
   intro w hSw
   try dsimp only at hSw
   go_simp
   try with_reducible rfl
  case rest55 =>
  go_simp
  refine wpAnyH_take (i := 11) (v := ?v56) rfl (by kernel_rfl) (by kernel_rfl) (by kernel_rfl) (fun _ _ _ h => h) (Or.inl ⟨by rfl, ?hy56⟩) (by assumption) ?rest56
  case hy56 =>
   intro w hSw
   try dsimp only at hSw
   go_simp
   try with_reducible rfl
  case rest56 =>
  go_simp
  refine wpAnyH_take (i := 13) (v := ?v57) rfl (by kernel_rfl) (by kernel_rfl) (by kernel_rfl) (fun _ _ _ h => h) (Or.inl ⟨by rfl, ?hy57⟩) (by assumption) ?rest57
  case hy57 =>
   intro w hSw
   try dsimp only at hSw
   go_simp
   try with_reducible rfl
  case rest57 =>
  refine wpAnyH_ready (rs := [12]) (by kernel_rfl) (by simp) ?_
  refine AllReadyH.cons rfl (fun K hK => ?_) AllReadyH.nil
  go_simp
  go_at_call 23
  refine (HEQ2.out _ (keepBelow HY5.out HB6.out)).mono ?_
  rintro e w7 ⟨rfl, hb7⟩
  have HB7 : Hid (Below Y5.heap.size Y5 w7) := Lib.hid (keepBelow HB6.out hb7)
  clear hb7
  refine hK.out _ _ ?_ (fun hHeld => ?_)
  ·exact HALL.out _ HB7.out
  clear hK K
  refine wpAnyH_ready (rs := [14]) (by kernel_rfl) (by simp) ?_
  refine AllReadyH.cons rfl (fun K hK => ?_) AllReadyH.nil
  go_simp
  go_at_call 24
  refine (HV12.out _ (keepBelow HY5.out HB7.out)).mono ?_
  rintro e w8 ⟨rfl, hb8⟩
  have HB8 : Hid (Below Y5.heap.size Y5 w8) := Lib.hid (keepBelow HB7.out hb8)
  clear hb8
  refine hK.out _ _ ?_ (fun hHeld => ?_)
  ·exact HALL.out _ HB8.out
  clear hK K
  go_simp
  refine wpAnyH_take (i := 15) (v := ?v58) rfl (by kernel_rfl) (by kernel_rfl) (by kernel_rfl) (fun _ _ _ h => h) (Or.inl ⟨by rfl, ?hy58⟩) (by assumption) ?rest58
  case hy58 =>
   intro w hSw
   try dsimp only at hSw
   go_simp
   try with_reducible rfl
  case rest58 =>
  go_simp
  refine wpAnyH_take (i := 16) (v := ?v59) rfl (by kernel_rfl) (by kernel_rfl) (by kernel_rfl) (fun _ _ _ h => h) (Or.inl ⟨by rfl, ?hy59⟩) (by assumption) ?rest59
  case hy59 =>
   intro w hSw
   try dsimp only at hSw
   go_simp
   try with_reducible rfl
  case rest59 =>
  refine wpAnyH_ready (rs := [17]) (by kernel_rfl) (by simp) ?_
  refine AllReadyH.cons rfl (fun K hK => ?_) AllReadyH.nil
  go_simp
  go_at_call 24
  refine (HV22.out _ (keepBelow HY5.out HB8.out)).mono ?_
  rintro e w9 ⟨rfl, hb9⟩
  have HB9 : Hid (Below Y5.heap.size Y5 w9) := Lib.hid (keepBelow HB8.out hb9)
  clear hb9
  refine hK.out _ _ ?_ (fun hHeld => ?_)
  ·exact HALL.out _ HB9.out
  clear hK K
  go_simp
  refine wpAnyH_take (i := 18) (v := ?v60) rfl (by kernel_rfl) (by kernel_rfl) (by kernel_rfl) (fun _ _ _ h => h) (Or.inl ⟨by rfl, ?hy60⟩) (by assumption) ?rest60
  case hy60 =>
   intro w hSw
   try dsimp only at hSw
   go_simp
   try with_reducible rfl
  case rest60 =>
  go_simp
  refine wpAnyH_take (i := 19) (v := ?v61) rfl (by kernel_rfl) (by kernel_rfl) (by kernel_rfl) (fun _ _ _ h => h) (Or.inl ⟨by rfl, ?hy61⟩) (by assumption) ?rest61
  case hy61 =>
   intro w hSw
   try dsimp only at hSw
   go_simp
   try with_reducible rfl
  case rest61 =>
  go_simp
  refine wpAnyH_take (i := 20) (v := ?v62) rfl (by kernel_rfl) (by kernel_rfl) (by kernel_rfl) (fun _ _ _ h => h) (Or.inl ⟨by rfl, ?hy62⟩) (by assumption) ?rest62
  case hy62 =>
   intro w hSw
   try dsimp only at hSw
   go_simp
   try with_reducible rfl
  case rest62 =>
  go_simp
  refine wpAnyH_take (i := 21) (v := ?v63) rfl (by kernel_rfl) (by kernel_rfl) (by kernel_rfl) (fun _ _ _ h => h) (Or.inl ⟨by rfl, ?hy63⟩) (by assumption) ?rest63
  case hy63 =>
   intro w hSw
   try dsimp only at hSw
   go_simp
   try with_reducible rfl
  case rest63 =>
  refine wpAnyH_ready (rs := [22]) (by kernel_rfl) (by simp) ?_
  refine AllReadyH.cons rfl (fun K hK => ?_) AllReadyH.nil
  go_simp
  go_at_call 14
  refine (HSM.out _ (keepBelow HY5.out HB9.out)).mono ?_
  rintro e w10 ⟨rfl, hb10⟩
  have HB10 : Hid (Below Y5.heap.size Y5 w10) := Lib.hid (keepBelow HB9.out hb10)
  clear hb10
  refine hK.out _ _ ?_ (fun hHeld => ?_)
  ·exact HALL.out _ HB10.out
  clear hK K
  go_simp
  refine wpAnyH_take (i := 23) (v := ?v64) rfl (by kernel_rfl) (by kernel_rfl) (by kernel_rfl) (fun _ _ _ h => h) (Or.inl ⟨by rfl, ?hy64⟩) (by assumption) ?rest64
  case hy64 =>
   intro w hSw
   try dsimp only at hSw
   go_simp
   try with_reducible rfl
  case rest64 =>
  go_simp
  refine wpAnyH_take (i := 24) (v := ?v65) rfl (by kernel_rfl) (by kernel_rfl) (by kernel_rfl) (fun _ _ _ h => h) (Or.inl ⟨by rfl, ?hy65⟩) (by assumption) ?rest65
  case hy65 =>
   intro w hSw
   try dsimp only at hSw
   go_simp
   try with_reducible rfl
  case rest65 =>
  go_simp
  refine wpAnyH_take (i := 25) (v := ?v66) rfl (by kernel_rfl) (by kernel_rfl) (by kernel_rfl) (fun _ _ _ h => h) (Or.inl ⟨by rfl, ?hy66⟩) (by assumption) ?rest66
  case hy66 =>
   intro w hSw
   try dsimp only at hSw
   go_simp
   try with_reducible rfl
  case rest66 =>
  refine wpAnyH_done (by kernel_rfl) ?_ _
  go_simp
  obtain ⟨V, hV⟩ : ∃ W, w10 = W := ⟨_, rfl⟩
  have HBV : Hid (Below Y5.heap.size Y5 V) := Lib.hid (by rw [← hV]; exact HB10.out)
  rw [hV]
  clear hV
  obtain ⟨⟨y0, y1, y2⟩, -⟩ := HALL.out _ HBV.out
  go_upto_region 10 with (first | (go_at_call 25; refine (HRU2.out _ (keepBelow HY5.out HBV.out)).mono ?_; rintro e v11 ⟨⟨u11, rfl, hr11⟩, hb11⟩; obtain ⟨V2, hV2⟩ : ∃ W, v11 = W := ⟨_, rfl⟩; rw [hV2] at hr11 hb11 ⊢; clear hV2; obtain ⟨a11, c11, rfl⟩ := hr11.form; have HR11 := Lib.hid hr11; have HB11 := Lib.hid (keepBelow HBV.out hb11); clear hr11 hb11) | fail)
  clear y0 y1 y2
  obtain ⟨⟨y0, y1, y2⟩, -⟩ := HALL.out _ HB11.out
  go_upto_region 12 with (first | (go_at_call 24; refine (HV12.out _ (keepBelow HY5.out HB11.out)).mono ?_; rintro e v12 ⟨rfl, hb12⟩; obtain ⟨V3, hV3⟩ : ∃ W, v12 = W := ⟨_, rfl⟩; rw [hV3] at hb12 ⊢; clear hV3; have HB12 := Lib.hid (keepBelow HB11.out hb12); have HR12 := Lib.hid (HR11.out.below hb12); clear hb12) | fail)
  clear y0 y1 y2
  obtain ⟨⟨y0, y1, y2⟩, -⟩ := HALL.out _ HB12.out
  have HRE : Hid (RL = S.ru.filter fun r => r.nm == bsO N) := Lib.hid (by rw [HRL.out]; simp)
  rw [← HRE.out] at HRR2
  go_wp2_with (first
   | (go_at_call 27; refine (HRR2.out _ (keepBelow HY5.out HB12.out)).mono ?_; rintro e v13 ⟨⟨u13, rfl, hr13⟩, hb13⟩; have HR13 := Lib.hid hr13; have HB13 := Lib.hid (keepBelow HB12.out hb13); have HRB := Lib.hid (HR12.out.below hb13); clear hr13 hb13)
   | (go_at_call 26; refine (HER.out RL _ _ _ HRB.out HR13.out).mono ?_; rintro e v14 ⟨rfl, hb14⟩; have HB14 := Lib.hid (keepBelow HB13.out hb14); clear hb14)
   | fail)
  go_ret
  exact ⟨rfl, keepBelow HY5.out HB14.out⟩
end Go.Proofs.YtlbglinpgjlbkaaGreatDoor
