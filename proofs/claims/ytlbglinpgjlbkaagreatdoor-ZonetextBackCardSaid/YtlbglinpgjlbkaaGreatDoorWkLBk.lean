import Derived.Test.YtlbglinpgjlbkaaGreatDoorWkEqs
import Derived.Test.YtlbglinpgjlbkaaGreatDoorWkFw
import Derived.Test.YtlbglinpgjlbkaaGreatDoorWkL0
import Derived.Test.YtlbglinpgjlbkaaGreatDoorWkLCn
/- Zone texts: the law Back. Printed by gen_ls.py. No conditions. -/
namespace Go.Proofs.YtlbglinpgjlbkaaGreatDoor
open Go.RowKit Wk

theorem bk_text {S : SrT} (h : validB S = true) (h2 : (textM S).2 = 0) : (textM S).1 = flatT (wordsT S) ∧ (flatT (wordsT S)).length ≤ 65536 := by
 unfold textM at h2 ⊢
 rw [h] at h2 ⊢
 rw [if_neg (by simp)] at h2 ⊢
 by_cases g : 65536 < (flatT (wordsT S)).length
 ·rw [if_pos g] at h2
  cases h2
 ·rw [if_neg g]
  exact ⟨rfl, by omega⟩
theorem bk_full {S : SrT} (h : validB S = true) (h2 : (textM S).2 ≠ 0) : textM S = ([], 5) := by
 unfold textM at h2 ⊢
 rw [h] at h2 ⊢
 rw [if_neg (by simp)] at h2 ⊢
 by_cases g : 65536 < (flatT (wordsT S)).length
 ·rw [if_pos g]
 ·rw [if_neg g] at h2
  exact absurd rfl h2
theorem bk_bad {S : SrT} (h : validB S = false) : textM S = ([], 1) := by
 unfold textM
 rw [h, if_pos rfl]
theorem bk_last {l : Bs} (h : l.getLast? = some 10) : Lib.hasSuffix l [10] = true := by
 obtain ⟨r, rfl⟩ := List.getLast?_eq_some_iff.1 h
 unfold Lib.hasSuffix
 rw [List.isSuffixOf_iff_suffix]
 exact List.suffix_append _ _
def lnZ (L : List ZkT) (i : Nat) : Nat := ((L.take i).map fun z => z.1.li.length).sum
theorem lnZ_next {L : List ZkT} {i : Nat} (h : i < L.length) : lnZ L (i + 1) = lnZ L i + (L.getD i zk0).1.li.length := by
 unfold lnZ
 rw [take_next zk0 h, List.map_append, List.sum_append]
 simp
theorem lnZ_all (L : List ZkT) : (L.map fun z => 1 + z.1.li.length).sum = L.length + lnZ L L.length := by
 unfold lnZ
 rw [List.take_length]
 induction L with
 | nil => rfl
 | cons x r ih =>
  simp only [List.map_cons, List.sum_cons, List.length_cons]
  rw [ih]
  omega
set_option maxRecDepth 100000 in
set_option maxHeartbeats 8000000 in
theorem law_Back (rv zv lv : Value) (S : SrT) (Z : List ZkT) (w : World) (hs : RdSr w rv zv lv S Z) (_hcr : CapV rv) (hcz : CapV zv) (hcl : CapV lv) (_hcq : ∀ i, i < Z.length → CapV (Z.getD i zk0).2) (hg : Glob w) (hT : TabP w) :
  Calls Tryz.prog 10 #[.agg #[rv, zv, lv]] w fun e w' => e = .returned (.bool true) ∧ Below w.heap.size w w' := by
 have HG := Lib.hid hg
 have HT := Lib.hid hT
 have HS := Lib.hid hs
 have HAW : Hid (∀ W, Below w.heap.size w W → Calls Tryz.prog 11 #[] W fun e w' => e = .returned (.bool true) ∧ Below W.heap.size W w') := Lib.hid fun W hW => awake_any W (HG.out.below hW)
 have HFE : Hid (∀ W, Below w.heap.size w W → Calls Tryz.prog 19 #[.agg #[rv, zv, lv]] W fun e w' => e = .returned (.bool (fewB S)) ∧ Below W.heap.size W w') := Lib.hid fun W hW => few_any rv zv lv S Z W (hs.below hW)
 have HTX : Hid (fewB S = true → ∀ W, Below w.heap.size w W → Calls Tryz.prog 33 #[.agg #[rv, zv, lv]] W fun e w' => e = .returned (.tuple #[.string ⟨(textM S).1.toArray⟩, .int .i64 (textM S).2]) ∧ Below W.heap.size W w') := Lib.hid fun h W hW => text_any rv zv lv S Z W (hs.below hW) (few_out h).2.2.2 (HG.out.below hW) (HT.out.below hW) hcz hcl
 have HVA : Hid (fewB S = true → ∀ W, Below w.heap.size w W → Calls Tryz.prog 35 #[.agg #[rv, zv, lv]] W fun e w' => e = .returned (.bool (validB S)) ∧ Below W.heap.size W w') := Lib.hid fun h W hW => valid_any rv zv lv S Z W (hs.below hW) (few_out h).2.2.2 (HG.out.below hW) hcz hcl
 have HEQ : Hid (validB S = true → ∀ rv2 zv2 lv2 Z2 W, Below w.heap.size w W → RdSr W rv2 zv2 lv2 S Z2 → CapV zv2 → CapV lv2 → Calls Tryz.prog 23 #[.agg #[rv2, zv2, lv2], .agg #[rv, zv, lv]] W fun e w' => e = .returned (.bool true) ∧ Below W.heap.size W w') := Lib.hid fun h rv2 zv2 lv2 Z2 W hW hr2 hz2 hl2 => by
  have q := equal_any rv2 zv2 lv2 S Z2 rv zv lv S Z W hr2 (hs.below hW) (sz_valid h) (sz_valid h) (HG.out.below hW) hz2 hl2 hcz hcl
  rw [h, decide_eq_true rfl] at q
  exact q
 have HVP : Hid (validB S = true → S.ru.length ≤ 100 ∧ Z.length ≤ 30 ∧ S.lk.length ≤ 30 ∧ ∀ i, i < Z.length → (Z.getD i zk0).1.li.length ≤ 100) := Lib.hid fun h => by
  obtain ⟨h1, h2, -, h4, -⟩ := valid_parts h
  rw [← hs.zs, List.length_map] at h2
  exact ⟨h1, by omega, by omega, fun i hi => (zo_parts (h4 _ (by rw [← hs.zs]; exact List.mem_map_of_mem (getD_mem hi)))).2.2.1⟩
 have HCO : Hid (validB S = true → (flatT (wordsT S)).count 10 = S.ru.length + Z.length + S.lk.length + lnZ Z Z.length) := Lib.hid fun h => by
  rw [flat_count _ (fun ws h1 => (words_wd h ws h1).2), words_num, ← hs.zs, List.map_map]
  have := lnZ_all Z
  have e : (Z.map ((fun z : ZoT => 1 + z.li.length) ∘ Prod.fst)).sum = (Z.map fun z => 1 + z.1.li.length).sum := rfl
  omega
 obtain ⟨TT, hTT⟩ : ∃ t : ByteArray, ⟨(textM S).1.toArray⟩ = t := ⟨_, rfl⟩
 obtain ⟨te, hte⟩ : ∃ t, (textM S).2 = t := ⟨_, rfl⟩
 rw [hTT, hte] at HTX
 have HTE : Hid (textM S = (bsO TT, te)) := Lib.hid (by rw [← hTT, ← hte])
 have HPB : Hid (validB S = true → te = 0 → ∀ W, Below w.heap.size w W → Calls Tryz.prog 12 #[.string TT] W (ParQ S 0 0 0 W)) := Lib.hid fun h h0 W hW => by
  obtain ⟨e1, e2⟩ := bk_text h (by rw [HTE.out]; exact h0)
  rw [HTE.out] at e1
  have e1 : bsO TT = flatT (wordsT S) := e1
  have q := parse_any TT (by rw [← bs_len, e1]; omega) W (HG.out.below hW)
  unfold ParP at q
  rw [e1, parse_text h e2] at q
  exact q
 have HCN : Hid (validB S = true → te = 0 → ∀ W : World, Calls Tryz.prog 40 #[.string TT, .string ⟨#[10]⟩] W fun e w' => e = .returned (.int .i64 ((S.ru.length + Z.length + S.lk.length + lnZ Z Z.length : Nat) : Int)) ∧ w' = W) := Lib.hid fun h h0 W => by
  obtain ⟨e1, e2⟩ := bk_text h (by rw [HTE.out]; exact h0)
  rw [HTE.out] at e1
  have e1 : bsO TT = flatT (wordsT S) := e1
  have q := Tryz.strings_Count_one TT 10 W
  rw [show Lib.countByte TT.data.toList 10 = S.ru.length + Z.length + S.lk.length + lnZ Z Z.length by
   rw [← HCO.out h, ← e1]
   rfl] at q
  exact q
 have HSF : Hid (validB S = true → te = 0 → bsO TT ≠ [] → ∀ W : World, Calls Tryz.prog 41 #[.string TT, .string ⟨#[10]⟩] W fun e w' => e = .returned (.bool true) ∧ w' = W) := Lib.hid fun h h0 hne W => by
  obtain ⟨e1, e2⟩ := bk_text h (by rw [HTE.out]; exact h0)
  rw [HTE.out] at e1
  have e1 : bsO TT = flatT (wordsT S) := e1
  have q := Tryz.strings_HasSuffix TT ⟨#[10]⟩ W (by rw [← bs_len, e1]; omega)
  have hl : (bsO TT).getLast? = some 10 := by
   rw [e1]
   refine flat_last _ fun e => hne ?_
   rw [e1, e]
   rfl
  rw [show Lib.hasSuffix TT.data.toList (⟨#[10]⟩ : ByteArray).data.toList = true from bk_last hl] at q
  exact q
 have HBD : Hid (validB S = false → TT = ⟨#[]⟩ ∧ te = 1) := Lib.hid fun h => by
  have q := HTE.out
  rw [bk_bad h] at q
  injection q with q1 q2
  exact ⟨bs_inj q1.symm, q2.symm⟩
 have HFU : Hid (validB S = true → te ≠ 0 → TT = ⟨#[]⟩ ∧ te = 5) := Lib.hid fun h h0 => by
  have q := HTE.out
  rw [bk_full h (by rw [q]; exact h0)] at q
  injection q with q1 q2
  exact ⟨bs_inj q1.symm, q2.symm⟩
 obtain ⟨q, hq⟩ : ∃ q, fewB S = q := ⟨_, rfl⟩
 rw [hq] at HFE HTX HVA
 obtain ⟨p, hp⟩ : ∃ q, validB S = q := ⟨_, rfl⟩
 rw [hp] at HVA HEQ HVP HPB HCN HSF HBD HFU
 have HSX : Hid (∀ W, Below w.heap.size w W → RdSr W rv zv lv S Z) := Lib.hid fun W hW => HS.out.below hW
 clear HS
 obtain ⟨ra, rc, rfl⟩ := hs.ru.form
 obtain ⟨za, zc, rfl⟩ := hs.zo.row.form
 obtain ⟨la, lc, rfl⟩ := hs.lk.form
 clear hs hg hT hcz hcl hTT hte hq hp HG HT HCO HTE
 go_enter Tryz.func10, Tryz.ntmps10
 go_upto_region 1 with fail
 obtain ⟨bx, hbx⟩ : ∃ b, w.heap.size = b := ⟨_, rfl⟩
 obtain ⟨X, hX⟩ : ∃ Y, w.alloc (.cells #[.slice ra S.ru.length rc, .slice za Z.length zc, .slice la S.lk.length lc] 27) = Y := ⟨_, rfl⟩
 have HBX : Hid (Below w.heap.size w X) := Lib.hid (by rw [← hX]; exact (Below.refl _ _).alloc (Nat.le_refl _) _)
 have HK : Hid (∀ W, Below X.heap.size X W → W.cell? ⟨bx, 0, none⟩ = some (.slice ra S.ru.length rc) ∧ W.cell? ⟨bx, 1, none⟩ = some (.slice za Z.length zc) ∧ W.cell? ⟨bx, 2, none⟩ = some (.slice la S.lk.length lc)) := Lib.hid (by
  have q : Blk X bx #[.slice ra S.ru.length rc, .slice za Z.length zc, .slice la S.lk.length lc] 27 := by rw [← hX, ← hbx]; exact Blk.new _ _ _
  exact fun W hW => ⟨(q.below hW).cell (j := 0) rfl, (q.below hW).cell (j := 1) rfl, (q.below hW).cell (j := 2) rfl⟩)
 try rw [hX]
 try rw [hbx]
 clear hX hbx
 have HB0 : Hid (Below X.heap.size X X) := Lib.hid (Below.refl _ _)
 go_upto_region 3 with (first | (go_at_call 11; refine (HAW.out _ (keepBelow HBX.out HB0.out)).mono ?_; rintro e w1 ⟨rfl, hb1⟩; obtain ⟨W1, hW1⟩ : ∃ W, w1 = W := ⟨_, rfl⟩; rw [hW1] at hb1 ⊢; clear hW1; have HB1 : Hid (Below X.heap.size X W1) := Lib.hid (keepBelow HB0.out hb1); clear hb1) | fail)
 obtain ⟨y10, y11, y12⟩ := HK.out _ HB1.out
 cases q with
 | false =>
  go_wp2_with (first | (go_at_call 19; refine (HFE.out _ (keepBelow HBX.out HB1.out)).mono ?_; rintro e w2 ⟨rfl, hb2⟩; obtain ⟨W2, hW2⟩ : ∃ W, w2 = W := ⟨_, rfl⟩; rw [hW2] at hb2 ⊢; clear hW2; have HB2 : Hid (Below X.heap.size X W2) := Lib.hid (keepBelow HB1.out hb2); clear hb2) | fail)
  go_ret
  exact ⟨rfl, keepBelow HBX.out HB2.out⟩
 | true =>
 have HTX2 := Lib.hid (HTX.out rfl)
 have HVA2 := Lib.hid (HVA.out rfl)
 clear HTX HVA
 go_upto_region 5 with (first | (go_at_call 19; refine (HFE.out _ (keepBelow HBX.out HB1.out)).mono ?_; rintro e w2 ⟨rfl, hb2⟩; obtain ⟨W2, hW2⟩ : ∃ W, w2 = W := ⟨_, rfl⟩; rw [hW2] at hb2 ⊢; clear hW2; have HB2 : Hid (Below X.heap.size X W2) := Lib.hid (keepBelow HB1.out hb2); clear hb2) | fail)
 obtain ⟨y20, y21, y22⟩ := HK.out _ HB2.out
 clear y10 y11 y12
 go_upto_region 6 with (first | (go_at_call 33; refine (HTX2.out _ (keepBelow HBX.out HB2.out)).mono ?_; rintro e w3 ⟨rfl, hb3⟩; obtain ⟨W3, hW3⟩ : ∃ W, w3 = W := ⟨_, rfl⟩; rw [hW3] at hb3 ⊢; clear hW3; have HB3 : Hid (Below X.heap.size X W3) := Lib.hid (keepBelow HB2.out hb3); clear hb3) | fail)
 obtain ⟨y30, y31, y32⟩ := HK.out _ HB3.out
 clear y20 y21 y22
 cases p with
 | false =>
  obtain ⟨hT1, hT2⟩ := HBD.out rfl
  have hT3 : TT.toList = [] := by rw [hT1, bsT]
  have hT4 : TT.toList.isEmpty = true := by rw [hT3]; rfl
  have g1 : (te == 1) = true := by rw [hT2]; rfl
  clear hT1 hT2
  go_wp2_with (first | (go_at_call 35; refine (HVA2.out _ (keepBelow HBX.out HB3.out)).mono ?_; rintro e w4 ⟨rfl, hb4⟩; obtain ⟨W4, hW4⟩ : ∃ W, w4 = W := ⟨_, rfl⟩; rw [hW4] at hb4 ⊢; clear hW4; have HB4 : Hid (Below X.heap.size X W4) := Lib.hid (keepBelow HB3.out hb4); clear hb4) | fail)
  go_ret
  exact ⟨rfl, keepBelow HBX.out HB4.out⟩
 | true =>
 have HV := Lib.hid (HVP.out rfl)
 go_upto_region 8 with (first | (go_at_call 35; refine (HVA2.out _ (keepBelow HBX.out HB3.out)).mono ?_; rintro e w4 ⟨rfl, hb4⟩; obtain ⟨W4, hW4⟩ : ∃ W, w4 = W := ⟨_, rfl⟩; rw [hW4] at hb4 ⊢; clear hW4; have HB4 : Hid (Below X.heap.size X W4) := Lib.hid (keepBelow HB3.out hb4); clear hb4) | fail)
 obtain ⟨y40, y41, y42⟩ := HK.out _ HB4.out
 clear y30 y31 y32
 by_cases h0 : te = 0
 ·have g0 : (te != 0) = false := by rw [h0]; rfl
  have HPB2 := Lib.hid (HPB.out (by trivial) h0)
  have HCN2 := Lib.hid (HCN.out (by trivial) h0)
  have HSF2 := Lib.hid (HSF.out (by trivial) h0)
  have HEQ2 := Lib.hid (HEQ.out (by trivial))
  clear h0 HPB HCN HSF HEQ HVP HBD HFU HTX2 HVA2
  clear y40 y41 y42
  go_upto_region 10 with fail
  clear g0
  go_upto_region 11 with (first | (go_at_call 12; refine (HPB2.out _ (keepBelow HBX.out HB4.out)).mono ?_; rintro e w5 ⟨rv2, zv2, lv2, Z2, rfl, hr2, cr2, cz2, cl2, hb2⟩; obtain ⟨W5, hW5⟩ : ∃ W, w5 = W := ⟨_, rfl⟩; rw [hW5] at hr2 hb2 ⊢; clear hW5; obtain ⟨ra2, rc2, rfl⟩ := hr2.ru.form; obtain ⟨za2, zc2, rfl⟩ := hr2.zo.row.form; obtain ⟨la2, lc2, rfl⟩ := hr2.lk.form; have HR2 := Lib.hid hr2; have HB5 : Hid (Below X.heap.size X W5) := Lib.hid (keepBelow HB4.out hb2); have HCZ2 := Lib.hid (And.intro cz2 cl2); clear hr2 hb2 cr2 cz2 cl2) | fail)
  obtain ⟨b5, hb5⟩ : ∃ b, W5.heap.size = b := ⟨_, rfl⟩
  obtain ⟨b6, hb6⟩ : ∃ b, W5.heap.size + 1 = b := ⟨_, rfl⟩
  obtain ⟨V, hV⟩ : ∃ Y, (W5.alloc (.cells #[.slice ra2 S.ru.length rc2, .slice za2 Z2.length zc2, .slice la2 S.lk.length lc2] 27)).alloc (.cells #[.int .i64 0, .int .i64 0] 29) = Y := ⟨_, rfl⟩
  have HBV : Hid (Below W5.heap.size W5 V) := Lib.hid (by rw [← hV]; exact ((Below.refl _ _).alloc (Nat.le_refl _) _).alloc (by simp) _)
  have HS2 : Hid (Blk V b5 #[.slice ra2 S.ru.length rc2, .slice za2 Z2.length zc2, .slice la2 S.lk.length lc2] 27) := Lib.hid (by rw [← hV, ← hb5]; exact (Blk.new _ _ _).below ((Below.refl _ _).alloc (Nat.le_refl _) _))
  have HP2 : Hid (Blk V b6 #[.int .i64 0, .int .i64 0] 29) := Lib.hid (by
   rw [← hV, ← hb6]
   have q := Blk.new (W5.alloc (.cells #[.slice ra2 S.ru.length rc2, .slice za2 Z2.length zc2, .slice la2 S.lk.length lc2] 27)) #[.int .i64 0, .int .i64 0] 29
   simpa using q)
  try rw [hV]
  try rw [hb6]
  try rw [hb5]
  clear hV hb5 hb6
  have HBXV := Lib.hid (keepBelow HB5.out HBV.out)
  obtain ⟨y0, y1, y2⟩ := HK.out _ HBXV.out
  have l1 : (S.ru.length : Int) ≤ 100 := by have := HV.out.1; omega
  have l2 : (Z.length : Int) ≤ 30 := by have := HV.out.2.1; omega
  have l3 : (S.lk.length : Int) ≤ 30 := by have := HV.out.2.2.1; omega
  go_upto_region 13 with fail
  clear y0 y1 y2
  go_loopw [8, 10, 58] (fun u8 _ u wr => ∃ i n : Nat, u = .int .i64 i ∧ u8 = .int .i64 (n : Int) ∧ i ≤ Z.length ∧ n ≤ 160 + 100 * i ∧ Hid (n = S.ru.length + Z.length + S.lk.length + lnZ Z i) ∧ Hid (Below V.heap.size V wr)) (fun _ _ u _ => Z.length - (intOf u).toNat)
  case atStart => exact ⟨0, S.ru.length + Z.length + S.lk.length, rfl, congrArg (Value.int .i64) (by omega), Nat.zero_le _, by omega, Lib.hid rfl, Below.refl _ _⟩
  case round =>
   obtain ⟨i, n, rfl, rfl, hi, hn, HN, HB⟩ := hrel
   have hnb : (n : Int) ≤ 4000 := by omega
   have hib : (i : Int) ≤ 30 := by omega
   have HBW := Lib.hid (keepBelow HBXV.out HB.out)
   by_cases hlt : i < Z.length
   ·have HRS := HSX.out _ (keepBelow HBX.out HBW.out)
    obtain ⟨al', cl', ea, _, hc⟩ := HRS.zo.row
    cases ea
    obtain ⟨b, o, rfl, hcc⟩ := hc i hlt
    have hli := HRS.zo.li i hlt
    have hl100 := HV.out.2.2.2 i hlt
    have HNX := Lib.hid (lnZ_next hlt)
    obtain ⟨x, hx⟩ : ∃ x, Z.getD i zk0 = x := ⟨_, rfl⟩
    rw [hx] at hcc hli hl100 HNX
    clear hc hx HRS
    obtain ⟨⟨nm, li⟩, lv3⟩ := x
    obtain ⟨NM, rfl⟩ := bs_of nm
    obtain ⟨a3, c3, rfl⟩ : ∃ a c, lv3 = .slice a li.length c := RdG.form hli
    have hl100 : li.length ≤ 100 := hl100
    have hlb : (li.length : Int) ≤ 100 := by omega
    have HNX2 : Hid (lnZ Z (i + 1) = lnZ Z i + li.length) := HNX
    clear HNX hli
    have e0 : wr.cell? ⟨b, o + i * 2, none⟩ = some (.string NM) := hcc 0 _ (by decide) rfl
    have e1 : wr.cell? ⟨b, o + i * 2 + 1, none⟩ = some (.slice a3 li.length c3) := hcc 1 _ (by decide) rfl
    clear hcc
    have hll : (i : Int) < (Z.length : Int) := by omega
    have HN3 : Hid (n + li.length = S.ru.length + Z.length + S.lk.length + lnZ Z (i + 1)) := Lib.hid (by rw [HNX2.out, HN.out]; omega)
    go_upto_region 15 with fail
    obtain ⟨b9, hb9⟩ : ∃ b, wr.heap.size = b := ⟨_, rfl⟩
    obtain ⟨Y, hY⟩ : ∃ Y, wr.alloc (.cells #[.string NM, .slice a3 li.length c3] 45) = Y := ⟨_, rfl⟩
    have HBY : Hid (Below wr.heap.size wr Y) := Lib.hid (by rw [← hY]; exact (Below.refl _ _).alloc (Nat.le_refl _) _)
    have HKY : Hid (Blk Y b9 #[.string NM, .slice a3 li.length c3] 45) := Lib.hid (by rw [← hY, ← hb9]; exact Blk.new _ _ _)
    try rw [hY]
    try rw [hb9]
    clear hY hb9 e0 e1
    have u1 := HKY.out.cell (j := 1) rfl
    go_wp2_with fail
    go_roundw
    case rel => exact ⟨i + 1, n + li.length, by go_num, congrArg (Value.int .i64) (by omega), by omega, by omega, HN3, Lib.hid (keepBelow HB.out HBY.out)⟩
    case measure => simp [intOf]; omega
   ·obtain rfl : i = Z.length := by omega
    rw [← HN.out] at HCN2
    obtain ⟨y0, y1, y2⟩ := HK.out _ HBW.out
    have p0 := (HP2.out.below HB.out).cell (j := 0) rfl
    have p1 := (HP2.out.below HB.out).cell (j := 1) rfl
    have s0 := (HS2.out.below HB.out).cell (j := 0) rfl
    have s1 := (HS2.out.below HB.out).cell (j := 1) rfl
    have s2 := (HS2.out.below HB.out).cell (j := 2) rfl
    have HEQ3 := Lib.hid (HEQ2.out _ _ _ Z2 wr (keepBelow HBX.out HBW.out) ((HR2.out.below HBV.out).below HB.out) HCZ2.out.1 HCZ2.out.2)
    clear HEQ2 HN hlt hi hn
    by_cases hne : bsO TT = []
    ·have g1 : TT.toList = [] := by rw [bsT]; exact hne
     have g2 : TT.toList.isEmpty = true := by rw [g1]; rfl
     clear hne HSF2
     go_wp2_with (first | (go_at_call 23; refine HEQ3.out.mono ?_; rintro e w6 ⟨rfl, hb6⟩; have HB6 : Hid (Below X.heap.size X w6) := Lib.hid (keepBelow HBW.out hb6)) | (go_at_call 40; refine (HCN2.out _).mono ?_; rintro e w7 ⟨rfl, hw7⟩; subst hw7) | fail)
     go_ret
     exact ⟨ret_bool (by simp), keepBelow HBX.out HB6.out⟩
    ·have g1 : ¬ TT.toList = [] := by rw [bsT]; exact hne
     have g2 : TT.toList.isEmpty = false := by simpa using g1
     have HSF3 := Lib.hid (HSF2.out hne)
     clear hne HSF2
     go_wp2_with (first | (go_at_call 23; refine HEQ3.out.mono ?_; rintro e w6 ⟨rfl, hb6⟩; have HB6 : Hid (Below X.heap.size X w6) := Lib.hid (keepBelow HBW.out hb6)) | (go_at_call 40; refine (HCN2.out _).mono ?_; rintro e w7 ⟨rfl, hw7⟩; subst hw7) | (go_at_call 41; refine (HSF3.out _).mono ?_; rintro e w8 ⟨rfl, hw8⟩; subst hw8) | fail)
     go_ret
     exact ⟨ret_bool (by simp), keepBelow HBX.out HB6.out⟩
 ·obtain ⟨hT1, hT2⟩ := HFU.out (by trivial) h0
  have hT3 : TT.toList = [] := by rw [hT1, bsT]
  have hT4 : TT.toList.isEmpty = true := by rw [hT3]; rfl
  have g0 : (te != 0) = true := by rw [hT2]; rfl
  have g1 : (te == 5) = true := by rw [hT2]; rfl
  clear hT1 hT2 h0
  go_wp2_with fail
  go_ret
  exact ⟨rfl, keepBelow HBX.out HB4.out⟩
end Go.Proofs.YtlbglinpgjlbkaaGreatDoor
