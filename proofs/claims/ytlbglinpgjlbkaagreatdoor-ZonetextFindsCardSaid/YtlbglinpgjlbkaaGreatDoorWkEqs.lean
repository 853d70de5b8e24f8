import Derived.Test.YtlbglinpgjlbkaaGreatDoorWkEqz
import Derived.Test.YtlbglinpgjlbkaaGreatDoorWkC5
/- Zone texts: zonetext.Equal. Printed by gen_eqs.py. No conditions. -/
namespace Go.Proofs.YtlbglinpgjlbkaaGreatDoor
open Go.RowKit Wk

set_option maxRecDepth 100000 in
set_option maxHeartbeats 4000000 in
theorem eqClo_any (N1 N2 : ByteArray) (l1 l2 : Value) (li1 li2 : List LiT) (w : World) (h1 : RdLi w l1 li1) (h2 : RdLi w l2 li2) :
  Calls Tryz.prog 82 #[.agg #[.string N1, l1], .agg #[.string N2, l2]] w fun e w' => e = .returned (.bool (decide ((⟨bsO N1, li1⟩ : ZoT) = ⟨bsO N2, li2⟩))) ∧ Below w.heap.size w w' := by
 have HEL : Hid (∀ W, Below w.heap.size w W → Calls Tryz.prog 83 #[l1, l2] W fun e w' => e = .returned (.bool (decide (li1 = li2))) ∧ Below W.heap.size W w') := Lib.hid fun W hW => eq_line l1 l2 li1 li2 W (h1.below hW) (h2.below hW)
 obtain ⟨r, hr⟩ : ∃ r, decide ((⟨bsO N1, li1⟩ : ZoT) = ⟨bsO N2, li2⟩) = r := ⟨_, rfl⟩
 obtain ⟨q, hq⟩ : ∃ r, decide (li1 = li2) = r := ⟨_, rfl⟩
 rw [hr]
 rw [hq] at HEL
 have HR : Hid (r = (decide (bsO N1 = bsO N2) && q)) := Lib.hid (by
  rw [← hr, ← hq]
  by_cases e1 : bsO N1 = bsO N2 <;> by_cases e2 : li1 = li2 <;> simp [e1, e2])
 obtain ⟨a1, c1, rfl⟩ := h1.form
 obtain ⟨a2, c2, rfl⟩ := h2.form
 clear h1 h2 hr hq
 go_enter Tryz.func82, Tryz.ntmps82
 go_upto_region 1 with fail
 obtain ⟨b2, hb2⟩ : ∃ b, w.heap.size = b := ⟨_, rfl⟩
 obtain ⟨b3, hb3⟩ : ∃ b, w.heap.size + 1 = b := ⟨_, rfl⟩
 obtain ⟨X, hX⟩ : ∃ X, (w.alloc (.cells #[.string N1, .slice a1 li1.length c1] 45)).alloc (.cells #[.string N2, .slice a2 li2.length c2] 45) = X := ⟨_, rfl⟩
 have HBX : Hid (Below w.heap.size w X) := Lib.hid (by rw [← hX]; exact ((Below.refl _ w).alloc (Nat.le_refl _) _).alloc (by simp) _)
 have HX2 : Hid (Blk X b2 #[.string N1, .slice a1 li1.length c1] 45) := Lib.hid (by rw [← hX, ← hb2]; exact (Blk.new w _ _).below ((Below.refl _ _).alloc (Nat.le_refl _) _))
 have HX3 : Hid (Blk X b3 #[.string N2, .slice a2 li2.length c2] 45) := Lib.hid (by
  rw [← hX, ← hb3]
  have q := Blk.new (w.alloc (.cells #[.string N1, .slice a1 li1.length c1] 45)) #[.string N2, .slice a2 li2.length c2] 45
  simpa using q)
 try rw [hX]
 try rw [hb3]
 try rw [hb2]
 clear hX hb2 hb3
 have x0 := HX2.out.cell (j := 0) rfl
 have x1 := HX2.out.cell (j := 1) rfl
 have y0 := HX3.out.cell (j := 0) rfl
 have y1 := HX3.out.cell (j := 1) rfl
 by_cases e1 : bsO N1 = bsO N2
 ·have g1 : (N1.toList == N2.toList) = true := by rw [bsT, bsT, e1]; exact BEq.rfl
  have HQ : Hid (q = r) := Lib.hid (by rw [HR.out, decide_eq_true e1, Bool.true_and])
  clear e1
  go_wp2_with (first | (go_at_call 83; refine (HEL.out _ HBX.out).mono ?_; rintro e w8 ⟨rfl, hb8⟩) | fail)
  go_ret
  exact ⟨ret_bool HQ.out, keepBelow HBX.out hb8⟩
 ·have g1 : (N1.toList == N2.toList) = false := by rw [bsT, bsT]; exact beq_eq_false_iff_ne.2 e1
  have HQ : Hid (false = r) := Lib.hid (by rw [HR.out, decide_eq_false e1, Bool.false_and])
  clear e1
  go_wp2_with fail
  go_ret
  exact ⟨ret_bool HQ.out, HBX.out⟩
set_option maxRecDepth 100000 in
set_option maxHeartbeats 8000000 in
theorem eqZones_any (v1 v2 : Value) (L M : List ZkT) (w : World) (h1 : RdZk w v1 L) (h2 : RdZk w v2 M) :
  Calls Tryz.prog 81 #[v1, v2, .func (.func 82) #[] #[]] w fun e w' => e = .returned (.bool (decide (L.map Prod.fst = M.map Prod.fst))) ∧ Below w.heap.size w w' := by
 obtain ⟨⟨a1, c1, rfl, hl1, hc1⟩, li1⟩ := h1
 obtain ⟨⟨a2, c2, rfl, hl2, hc2⟩, li2⟩ := h2
 have HC1 := Lib.hid hc1
 have HC2 := Lib.hid hc2
 have HL1 := Lib.hid li1
 have HL2 := Lib.hid li2
 clear hc1 hc2 li1 li2
 go_enter Tryz.func81, Tryz.ntmps81
 by_cases hlen : L.length = M.length
 ·have hln : ((L.length : Int) != (M.length : Int)) = false := by rw [hlen]; simp
  have HLE := Lib.hid hlen
  go_wp2_with fail
  clear hln hlen
  go_loopw [7, 8, 9, 17] (fun _ _ _ u wr => ∃ i : Nat, u = .int .i64 i ∧ i ≤ L.length ∧ Hid (∀ j, j < i → (L.getD j zk0).1 = (M.getD j zk0).1) ∧ Hid (Below w.heap.size w wr)) (fun _ _ _ u _ => L.length - (intOf u).toNat)
  case atStart => exact ⟨0, rfl, Nat.zero_le _, Lib.hid fun j hj => by omega, Below.refl _ _⟩
  case round =>
   obtain ⟨i, rfl, hi, HE, HB⟩ := hrel
   by_cases hlt : i < L.length
   ·have hlt2 : (i : Int) < (L.length : Int) := by omega
    have hlt3 : (i : Int) < (M.length : Int) := by have := HLE.out; omega
    have hi0 : (0 : Int) ≤ (i : Int) := Int.natCast_nonneg _
    have HLT1 : i < L.length := hlt
    have HLT2 : i < M.length := by have := HLE.out; omega
    obtain ⟨b1, o1, rfl, hc1⟩ := HC1.out i HLT1
    have hl1 := HL1.out i HLT1
    obtain ⟨x1, hx1⟩ : ∃ x, L.getD i zk0 = x := ⟨_, rfl⟩
    rw [hx1] at hc1 hl1
    have HXX1 := Lib.hid hx1
    clear hx1
    obtain ⟨⟨n1, li1⟩, v1⟩ := x1
    obtain ⟨N1, rfl⟩ := bs_of n1
    have HRL1 : Hid (RdLi wr v1 li1) := Lib.hid (RdG.below hl1 HB.out)
    obtain ⟨q1, k1, rfl⟩ : ∃ a c, v1 = .slice a li1.length c := RdG.form hl1
    have d10 : wr.cell? ⟨b1, o1 + i * 2, none⟩ = some (.string N1) := keepCell HB.out (hc1 0 _ (by decide) rfl)
    have d11 : wr.cell? ⟨b1, o1 + i * 2 + 1, none⟩ = some (.slice q1 li1.length k1) := keepCell HB.out (hc1 1 _ (by decide) rfl)
    clear hc1 hl1
    obtain ⟨b2, o2, rfl, hc2⟩ := HC2.out i HLT2
    have hl2 := HL2.out i HLT2
    obtain ⟨x2, hx2⟩ : ∃ x, M.getD i zk0 = x := ⟨_, rfl⟩
    rw [hx2] at hc2 hl2
    have HXX2 := Lib.hid hx2
    clear hx2
    obtain ⟨⟨n2, li2⟩, v2⟩ := x2
    obtain ⟨N2, rfl⟩ := bs_of n2
    have HRL2 : Hid (RdLi wr v2 li2) := Lib.hid (RdG.below hl2 HB.out)
    obtain ⟨q2, k2, rfl⟩ : ∃ a c, v2 = .slice a li2.length c := RdG.form hl2
    have d20 : wr.cell? ⟨b2, o2 + i * 2, none⟩ = some (.string N2) := keepCell HB.out (hc2 0 _ (by decide) rfl)
    have d21 : wr.cell? ⟨b2, o2 + i * 2 + 1, none⟩ = some (.slice q2 li2.length k2) := keepCell HB.out (hc2 1 _ (by decide) rfl)
    clear hc2 hl2
    clear HLT1 HLT2
    obtain ⟨q, hq⟩ : ∃ r, decide ((⟨bsO N1, li1⟩ : ZoT) = ⟨bsO N2, li2⟩) = r := ⟨_, rfl⟩
    have HCA : Hid (∀ W, Below wr.heap.size wr W → Calls Tryz.prog 82 #[.agg #[.string N1, .slice q1 li1.length k1], .agg #[.string N2, .slice q2 li2.length k2]] W fun e w' => e = .returned (.bool q) ∧ Below W.heap.size W w') := Lib.hid (by rw [← hq]; exact fun W hW => eqClo_any N1 N2 _ _ li1 li2 W (RdG.below HRL1.out hW) (RdG.below HRL2.out hW))
    have HN : Hid (q = true → Hid (∀ j, j < i + 1 → (L.getD j zk0).1 = (M.getD j zk0).1)) := Lib.hid fun h => Lib.hid fun j hj => by
     rcases Nat.lt_succ_iff_lt_or_eq.1 hj with g | rfl
     ·exact HE.out j g
     ·rw [HXX1.out, HXX2.out]
      rw [h] at hq
      exact of_decide_eq_true hq
    have HX : Hid (q = false → false = decide (L.map Prod.fst = M.map Prod.fst)) := Lib.hid fun h => by
     refine (decide_eq_false fun e => ?_).symm
     rw [h] at hq
     refine of_decide_eq_false hq ?_
     have e1 := congrArg (fun l : List ZoT => l[i]?) e
     simp only [List.getElem?_map] at e1
     have e2 := HXX1.out
     have e3 := HXX2.out
     rw [List.getD_eq_getElem?_getD, List.getElem?_eq_getElem hlt] at e2
     rw [List.getD_eq_getElem?_getD, List.getElem?_eq_getElem (show i < M.length by have := HLE.out; omega)] at e3
     rw [List.getElem?_eq_getElem hlt, List.getElem?_eq_getElem (show i < M.length by have := HLE.out; omega)] at e1
     simp only [Option.getD_some] at e2 e3
     rw [e2, e3] at e1
     simpa using e1
    clear hq HE HXX1 HXX2 HRL1 HRL2
    go_upto_region 6 with fail
    obtain ⟨b8, hb8⟩ : ∃ b, wr.heap.size = b := ⟨_, rfl⟩
    obtain ⟨Y, hY⟩ : ∃ X, wr.alloc (.cells #[.string N1, .slice q1 li1.length k1] 45) = X := ⟨_, rfl⟩
    have HBY : Hid (Below wr.heap.size wr Y) := Lib.hid (by rw [← hY]; exact (Below.refl _ _).alloc (Nat.le_refl _) _)
    have HKY : Hid (Blk Y b8 #[.string N1, .slice q1 li1.length k1] 45) := Lib.hid (by rw [← hY, ← hb8]; exact Blk.new _ _ _)
    try rw [hY]
    try rw [hb8]
    clear hY hb8
    have e20 := keepCell HBY.out d20
    have e21 := keepCell HBY.out d21
    clear d10 d11 d20 d21
    go_upto_region 7 with fail
    obtain ⟨b9, hb9⟩ : ∃ b, Y.heap.size = b := ⟨_, rfl⟩
    obtain ⟨V, hV⟩ : ∃ X, Y.alloc (.cells #[.string N2, .slice q2 li2.length k2] 45) = X := ⟨_, rfl⟩
    have HBV : Hid (Below Y.heap.size Y V) := Lib.hid (by rw [← hV]; exact (Below.refl _ _).alloc (Nat.le_refl _) _)
    have HKV : Hid (Blk V b9 #[.string N2, .slice q2 li2.length k2] 45) := Lib.hid (by rw [← hV, ← hb9]; exact Blk.new _ _ _)
    try rw [hV]
    try rw [hb9]
    clear hV hb9
    have HK8 := Lib.hid (HKY.out.below HBV.out)
    have HBW := Lib.hid (keepBelow HBY.out HBV.out)
    clear e20 e21
    have u0 := HK8.out.cell (j := 0) rfl
    have u1 := HK8.out.cell (j := 1) rfl
    have t0 := HKV.out.cell (j := 0) rfl
    have t1 := HKV.out.cell (j := 1) rfl
    go_upto_if 30 with (first | (go_at_call 82; refine (HCA.out _ HBW.out).mono ?_; rintro e w9 ⟨rfl, hb9⟩; have HB9 := Lib.hid (keepBelow HB.out (keepBelow HBW.out hb9)); clear hb9) | fail)
    clear u0 u1 t0 t1
    cases q with
    | true =>
     go_wp2_with fail
     go_roundw
     case rel => exact ⟨i + 1, by go_num, by omega, HN.out (by trivial), HB9⟩
     case measure => simp [intOf]; omega
    | false =>
     go_wp2_with fail
     go_ret
     exact ⟨ret_bool (HX.out (by trivial)), HB9.out⟩
   ·have hEQ : L.map Prod.fst = M.map Prod.fst := List.ext_getElem (by rw [List.length_map, List.length_map]; exact HLE.out) fun j g1 g2 => by
     rw [List.length_map] at g1 g2
     have := HE.out j (by omega)
     rw [List.getD_eq_getElem?_getD, List.getD_eq_getElem?_getD, List.getElem?_eq_getElem g1, List.getElem?_eq_getElem g2] at this
     rw [List.getElem_map, List.getElem_map]
     exact this
    have HT : Hid (true = decide (L.map Prod.fst = M.map Prod.fst)) := Lib.hid (decide_eq_true hEQ).symm
    obtain rfl : i = L.length := by omega
    have hlt5 : ¬(L.length : Int) < (M.length : Int) := by have := HLE.out; omega
    clear hEQ hlt hi HE
    go_wp2_with fail
    go_ret
    exact ⟨ret_bool HT.out, HB.out⟩
 ·have hln : ((L.length : Int) != (M.length : Int)) = true := by simpa using fun e => hlen (by omega)
  have HF : Hid (false = decide (L.map Prod.fst = M.map Prod.fst)) := Lib.hid (decide_eq_false fun e => hlen (by simpa using congrArg List.length e)).symm
  clear hlen
  go_wp2_with fail
  go_ret
  exact ⟨ret_bool HF.out, Below.refl _ _⟩
theorem sr_eq (S T : SrT) : decide (S = T) = (decide (S.ru = T.ru) && decide (S.lk = T.lk) && decide (S.zo = T.zo)) := by
 obtain ⟨a, b, c⟩ := S
 obtain ⟨a', b', c'⟩ := T
 by_cases e1 : a = a' <;> by_cases e2 : b = b' <;> by_cases e3 : c = c' <;> simp [e1, e2, e3]
set_option maxRecDepth 100000 in
set_option maxHeartbeats 8000000 in
theorem equal_any (rv zv lv : Value) (S : SrT) (Z : List ZkT) (rv2 zv2 lv2 : Value) (S2 : SrT) (Z2 : List ZkT) (w : World) (hs : RdSr w rv zv lv S Z) (hs2 : RdSr w rv2 zv2 lv2 S2 Z2) (hz : SzS S) (hz2 : SzS S2) (hg : Glob w)
  (hcz : CapV zv) (hcl : CapV lv) (hcz2 : CapV zv2) (hcl2 : CapV lv2) :
  Calls Tryz.prog 23 #[.agg #[rv, zv, lv], .agg #[rv2, zv2, lv2]] w fun e w' => e = .returned (.bool (validB S && validB S2 && decide (S = S2))) ∧ Below w.heap.size w w' := by
 have HV1 : Hid (∀ W, Below w.heap.size w W → Calls Tryz.prog 35 #[.agg #[rv, zv, lv]] W fun e w' => e = .returned (.bool (validB S)) ∧ Below W.heap.size W w') := Lib.hid fun W hW => valid_any rv zv lv S Z W (hs.below hW) hz (hg.below hW) hcz hcl
 have HV2 : Hid (∀ W, Below w.heap.size w W → Calls Tryz.prog 35 #[.agg #[rv2, zv2, lv2]] W fun e w' => e = .returned (.bool (validB S2)) ∧ Below W.heap.size W w') := Lib.hid fun W hW => valid_any rv2 zv2 lv2 S2 Z2 W (hs2.below hW) hz2 (hg.below hW) hcz2 hcl2
 have HER : Hid (∀ W, Below w.heap.size w W → Calls Tryz.prog 26 #[rv, rv2] W fun e w' => e = .returned (.bool (decide (S.ru = S2.ru))) ∧ Below W.heap.size W w') := Lib.hid fun W hW => eq_rule rv rv2 S.ru S2.ru W (hs.ru.below hW) (hs2.ru.below hW)
 have HEK : Hid (∀ W, Below w.heap.size w W → Calls Tryz.prog 80 #[lv, lv2] W fun e w' => e = .returned (.bool (decide (S.lk = S2.lk))) ∧ Below W.heap.size W w') := Lib.hid fun W hW => eq_link lv lv2 S.lk S2.lk W (hs.lk.below hW) (hs2.lk.below hW)
 have HEZ : Hid (∀ W, Below w.heap.size w W → Calls Tryz.prog 81 #[zv, zv2, .func (.func 82) #[] #[]] W fun e w' => e = .returned (.bool (decide (S.zo = S2.zo))) ∧ Below W.heap.size W w') := Lib.hid fun W hW => by
  have q := eqZones_any zv zv2 Z Z2 W (hs.zo.below hW) (hs2.zo.below hW)
  rw [hs.zs, hs2.zs] at q
  exact q
 obtain ⟨r, hr⟩ : ∃ r, (validB S && validB S2 && decide (S = S2)) = r := ⟨_, rfl⟩
 rw [hr]
 obtain ⟨q1, h1⟩ : ∃ r, validB S = r := ⟨_, rfl⟩
 obtain ⟨q2, h2⟩ : ∃ r, validB S2 = r := ⟨_, rfl⟩
 obtain ⟨q3, h3⟩ : ∃ r, decide (S.ru = S2.ru) = r := ⟨_, rfl⟩
 obtain ⟨q4, h4⟩ : ∃ r, decide (S.lk = S2.lk) = r := ⟨_, rfl⟩
 obtain ⟨q5, h5⟩ : ∃ r, decide (S.zo = S2.zo) = r := ⟨_, rfl⟩
 have HRR : Hid (r = (q1 && q2 && (q3 && q4 && q5))) := Lib.hid (by rw [← hr, sr_eq, h1, h2, h3, h4, h5])
 rw [h1] at HV1
 rw [h2] at HV2
 rw [h3] at HER
 rw [h4] at HEK
 rw [h5] at HEZ
 obtain ⟨ra, rc, rfl⟩ := hs.ru.form
 obtain ⟨za, zc, rfl⟩ := hs.zo.row.form
 obtain ⟨la, lc, rfl⟩ := hs.lk.form
 obtain ⟨ra2, rc2, rfl⟩ := hs2.ru.form
 obtain ⟨za2, zc2, rfl⟩ := hs2.zo.row.form
 obtain ⟨la2, lc2, rfl⟩ := hs2.lk.form
 clear hs hs2 hz hz2 hg hcz hcl hcz2 hcl2 hr h1 h2 h3 h4 h5
 go_enter Tryz.func23, Tryz.ntmps23
 go_upto_region 1 with fail
 obtain ⟨b2, hb2⟩ : ∃ b, w.heap.size = b := ⟨_, rfl⟩
 obtain ⟨b3, hb3⟩ : ∃ b, w.heap.size + 1 = b := ⟨_, rfl⟩
 obtain ⟨X, hX⟩ : ∃ X, (w.alloc (.cells #[.slice ra S.ru.length rc, .slice za Z.length zc, .slice la S.lk.length lc] 27)).alloc (.cells #[.slice ra2 S2.ru.length rc2, .slice za2 Z2.length zc2, .slice la2 S2.lk.length lc2] 27) = X := ⟨_, rfl⟩
 have HBX : Hid (Below w.heap.size w X) := Lib.hid (by rw [← hX]; exact ((Below.refl _ w).alloc (Nat.le_refl _) _).alloc (by simp) _)
 have HX2 : Hid (Blk X b2 #[.slice ra S.ru.length rc, .slice za Z.length zc, .slice la S.lk.length lc] 27) := Lib.hid (by rw [← hX, ← hb2]; exact (Blk.new w _ _).below ((Below.refl _ _).alloc (Nat.le_refl _) _))
 have HX3 : Hid (Blk X b3 #[.slice ra2 S2.ru.length rc2, .slice za2 Z2.length zc2, .slice la2 S2.lk.length lc2] 27) := Lib.hid (by
  rw [← hX, ← hb3]
  have q := Blk.new (w.alloc (.cells #[.slice ra S.ru.length rc, .slice za Z.length zc, .slice la S.lk.length lc] 27)) #[.slice ra2 S2.ru.length rc2, .slice za2 Z2.length zc2, .slice la2 S2.lk.length lc2] 27
  simpa using q)
 try rw [hX]
 try rw [hb3]
 try rw [hb2]
 clear hX hb2 hb3
 have HK : Hid (∀ W, Below X.heap.size X W → (W.cell? ⟨b2, 0, none⟩ = some (.slice ra S.ru.length rc) ∧ W.cell? ⟨b2, 1, none⟩ = some (.slice za Z.length zc) ∧ W.cell? ⟨b2, 2, none⟩ = some (.slice la S.lk.length lc)) ∧ W.cell? ⟨b3, 0, none⟩ = some (.slice ra2 S2.ru.length rc2) ∧ W.cell? ⟨b3, 1, none⟩ = some (.slice za2 Z2.length zc2) ∧ W.cell? ⟨b3, 2, none⟩ = some (.slice la2 S2.lk.length lc2)) := Lib.hid fun W hW => ⟨⟨(HX2.out.below hW).cell (j := 0) rfl, (HX2.out.below hW).cell (j := 1) rfl, (HX2.out.below hW).cell (j := 2) rfl⟩, (HX3.out.below hW).cell (j := 0) rfl, (HX3.out.below hW).cell (j := 1) rfl, (HX3.out.below hW).cell (j := 2) rfl⟩
 obtain ⟨⟨x0, x1, x2⟩, y0, y1, y2⟩ := HK.out _ (Below.refl _ _)
 cases q1 with
 | false =>
  have HE : Hid (false = r) := Lib.hid (by rw [HRR.out]; simp)
  go_wp2_with (first
   | (go_at_call 35; with_reducible refine (HV1.out _ HBX.out).mono ?_; rintro e w1 ⟨rfl, hb1⟩; have HB1 : Hid (Below X.heap.size X w1) := Lib.hid (hb1); have z1 := HK.out _ HB1.out; obtain ⟨⟨x10, x11, x12⟩, y10, y11, y12⟩ := z1)
   | fail)
  go_ret
  exact ⟨ret_bool HE.out, keepBelow HBX.out HB1.out⟩
 | true =>
 cases q2 with
 | false =>
  have HE : Hid (false = r) := Lib.hid (by rw [HRR.out]; simp)
  go_wp2_with (first
   | (go_at_call 35; with_reducible refine (HV1.out _ HBX.out).mono ?_; rintro e w1 ⟨rfl, hb1⟩; have HB1 : Hid (Below X.heap.size X w1) := Lib.hid (hb1); have z1 := HK.out _ HB1.out; obtain ⟨⟨x10, x11, x12⟩, y10, y11, y12⟩ := z1)
   | (go_at_call 35; with_reducible refine (HV2.out _ (keepBelow HBX.out HB1.out)).mono ?_; rintro e w2 ⟨rfl, hb2⟩; have HB2 : Hid (Below X.heap.size X w2) := Lib.hid (keepBelow HB1.out hb2); have z2 := HK.out _ HB2.out; obtain ⟨⟨x20, x21, x22⟩, y20, y21, y22⟩ := z2)
   | fail)
  go_ret
  exact ⟨ret_bool HE.out, keepBelow HBX.out HB2.out⟩
 | true =>
 cases q3 with
 | false =>
  have HE : Hid (false = r) := Lib.hid (by rw [HRR.out]; simp)
  go_wp2_with (first
   | (go_at_call 35; with_reducible refine (HV1.out _ HBX.out).mono ?_; rintro e w1 ⟨rfl, hb1⟩; have HB1 : Hid (Below X.heap.size X w1) := Lib.hid (hb1); have z1 := HK.out _ HB1.out; obtain ⟨⟨x10, x11, x12⟩, y10, y11, y12⟩ := z1)
   | (go_at_call 35; with_reducible refine (HV2.out _ (keepBelow HBX.out HB1.out)).mono ?_; rintro e w2 ⟨rfl, hb2⟩; have HB2 : Hid (Below X.heap.size X w2) := Lib.hid (keepBelow HB1.out hb2); have z2 := HK.out _ HB2.out; obtain ⟨⟨x20, x21, x22⟩, y20, y21, y22⟩ := z2)
   | (go_at_call 26; with_reducible refine (HER.out _ (keepBelow HBX.out HB2.out)).mono ?_; rintro e w3 ⟨rfl, hb3⟩; have HB3 : Hid (Below X.heap.size X w3) := Lib.hid (keepBelow HB2.out hb3); have z3 := HK.out _ HB3.out; obtain ⟨⟨x30, x31, x32⟩, y30, y31, y32⟩ := z3)
   | fail)
  go_ret
  exact ⟨ret_bool HE.out, keepBelow HBX.out HB3.out⟩
 | true =>
 cases q4 with
 | false =>
  have HE : Hid (false = r) := Lib.hid (by rw [HRR.out]; simp)
  go_wp2_with (first
   | (go_at_call 35; with_reducible refine (HV1.out _ HBX.out).mono ?_; rintro e w1 ⟨rfl, hb1⟩; have HB1 : Hid (Below X.heap.size X w1) := Lib.hid (hb1); have z1 := HK.out _ HB1.out; obtain ⟨⟨x10, x11, x12⟩, y10, y11, y12⟩ := z1)
   | (go_at_call 35; with_reducible refine (HV2.out _ (keepBelow HBX.out HB1.out)).mono ?_; rintro e w2 ⟨rfl, hb2⟩; have HB2 : Hid (Below X.heap.size X w2) := Lib.hid (keepBelow HB1.out hb2); have z2 := HK.out _ HB2.out; obtain ⟨⟨x20, x21, x22⟩, y20, y21, y22⟩ := z2)
   | (go_at_call 26; with_reducible refine (HER.out _ (keepBelow HBX.out HB2.out)).mono ?_; rintro e w3 ⟨rfl, hb3⟩; have HB3 : Hid (Below X.heap.size X w3) := Lib.hid (keepBelow HB2.out hb3); have z3 := HK.out _ HB3.out; obtain ⟨⟨x30, x31, x32⟩, y30, y31, y32⟩ := z3)
   | (go_at_call 80; with_reducible refine (HEK.out _ (keepBelow HBX.out HB3.out)).mono ?_; rintro e w4 ⟨rfl, hb4⟩; have HB4 : Hid (Below X.heap.size X w4) := Lib.hid (keepBelow HB3.out hb4); have z4 := HK.out _ HB4.out; obtain ⟨⟨x40, x41, x42⟩, y40, y41, y42⟩ := z4)
   | fail)
  go_ret
  exact ⟨ret_bool HE.out, keepBelow HBX.out HB4.out⟩
 | true =>
 have HE : Hid (q5 = r) := Lib.hid (by rw [HRR.out]; simp)
 go_wp2_with (first
  | (go_at_call 35; with_reducible refine (HV1.out _ HBX.out).mono ?_; rintro e w1 ⟨rfl, hb1⟩; have HB1 : Hid (Below X.heap.size X w1) := Lib.hid (hb1); have z1 := HK.out _ HB1.out; obtain ⟨⟨x10, x11, x12⟩, y10, y11, y12⟩ := z1)
  | (go_at_call 35; with_reducible refine (HV2.out _ (keepBelow HBX.out HB1.out)).mono ?_; rintro e w2 ⟨rfl, hb2⟩; have HB2 : Hid (Below X.heap.size X w2) := Lib.hid (keepBelow HB1.out hb2); have z2 := HK.out _ HB2.out; obtain ⟨⟨x20, x21, x22⟩, y20, y21, y22⟩ := z2)
  | (go_at_call 26; with_reducible refine (HER.out _ (keepBelow HBX.out HB2.out)).mono ?_; rintro e w3 ⟨rfl, hb3⟩; have HB3 : Hid (Below X.heap.size X w3) := Lib.hid (keepBelow HB2.out hb3); have z3 := HK.out _ HB3.out; obtain ⟨⟨x30, x31, x32⟩, y30, y31, y32⟩ := z3)
  | (go_at_call 80; with_reducible refine (HEK.out _ (keepBelow HBX.out HB3.out)).mono ?_; rintro e w4 ⟨rfl, hb4⟩; have HB4 : Hid (Below X.heap.size X w4) := Lib.hid (keepBelow HB3.out hb4); have z4 := HK.out _ HB4.out; obtain ⟨⟨x40, x41, x42⟩, y40, y41, y42⟩ := z4)
  | (go_at_call 81; with_reducible refine (HEZ.out _ (keepBelow HBX.out HB4.out)).mono ?_; rintro e w5 ⟨rfl, hb5⟩; have HB5 : Hid (Below X.heap.size X w5) := Lib.hid (keepBelow HB4.out hb5); have z5 := HK.out _ HB5.out; obtain ⟨⟨x50, x51, x52⟩, y50, y51, y52⟩ := z5)
  | fail)
 go_ret
 exact ⟨ret_bool HE.out, keepBelow HBX.out HB5.out⟩
end Go.Proofs.YtlbglinpgjlbkaaGreatDoor
