import Derived.Test.YtlbglinpgjlbkaaGreatDoorWkFz
/- Zone texts: the zone of a name, the program's. Printed by gen_fy.py. No conditions. -/
namespace Go.Proofs.YtlbglinpgjlbkaaGreatDoor
open Go.RowKit Wk

theorem one_li (z : LiT) : ∀ u ∈ flLi z, u.oneCell' = true := by
 intro u hu
 simp [flLi] at hu
 rcases hu with rfl | rfl | rfl | rfl | rfl | rfl | rfl | rfl | rfl | rfl | rfl | rfl <;> rfl
theorem zk_lin {S : SrT} {Z : List ZkT} (h : validB S = true) (hz : Z.map Prod.fst = S.zo) {n : Nat} (hn : n < Z.length) {x : ZkT} (e : Z.getD n zk0 = x) : x.1.li.length ≤ 1000000 := by
 obtain ⟨-, -, -, h2, -⟩ := valid_parts h
 have q := h2 x.1 (by
  rw [← hz, ← e]
  exact List.mem_map.2 ⟨_, getD_mem hn, rfl⟩)
 have := (zo_parts q).2.2.1
 omega
set_option maxRecDepth 100000 in
set_option maxHeartbeats 4000000 in
theorem zoneOf_any (rv zv lv : Value) (S : SrT) (Z : List ZkT) (N : ByteArray) (w : World) (hs : RdSr w rv zv lv S Z) (hz : SzS S) (hg : Glob w) (hcz : CapV zv) (hcl : CapV lv) :
  Calls Tryz.prog 20 #[.agg #[rv, zv, lv], .string N] w (ZonP S (bsO N) w) := by
 have HVA : Hid (∀ W, Below w.heap.size w W → Calls Tryz.prog 35 #[.agg #[rv, zv, lv]] W fun e w' => e = .returned (.bool (validB S)) ∧ Below W.heap.size W w') := Lib.hid fun W hW => valid_any rv zv lv S Z W (hs.below hW) hz (hg.below hW) hcz hcl
 obtain ⟨ra, rc, rfl⟩ := hs.ru.form
 obtain ⟨za, zc, rfl⟩ := hs.zo.row.form
 obtain ⟨la, lc, rfl⟩ := hs.lk.form
 have HS := Lib.hid hs
 have hlk : (S.lk.length : Int) ≤ 1152921504606846976 := by obtain ⟨_, _, _, h, _⟩ := hs.lk; omega
 have hlz : (Z.length : Int) ≤ 1152921504606846976 := by obtain ⟨_, _, _, h, _⟩ := hs.zo.row; omega
 clear hs hz hg hcz hcl
 go_enter Tryz.func20, Tryz.ntmps20
 go_upto_region 1 with fail
 obtain ⟨bx, hbx⟩ : ∃ b, w.heap.size = b := ⟨_, rfl⟩
 obtain ⟨br, hbr⟩ : ∃ b, w.heap.size + 1 = b := ⟨_, rfl⟩
 obtain ⟨X, hX⟩ : ∃ Y, (w.alloc (.cells #[.slice ra S.ru.length rc, .slice za Z.length zc, .slice la S.lk.length lc] 27)).alloc (.cells #[.string ⟨#[]⟩, .slice none 0 0] 45) = Y := ⟨_, rfl⟩
 have HBX : Hid (Below w.heap.size w X) := Lib.hid (by rw [← hX]; exact ((Below.refl _ _).alloc (Nat.le_refl _) _).alloc (by simp) _)
 have HBS : Hid (w.heap.size ≤ br) := Lib.hid (by omega)
 have HRB : Hid (Blk X br #[.string ⟨#[]⟩, .slice none 0 0] 45) := Lib.hid (by
  rw [← hX, ← hbr]
  have q := Blk.new (w.alloc (.cells #[.slice ra S.ru.length rc, .slice za Z.length zc, .slice la S.lk.length lc] 27)) #[.string ⟨#[]⟩, .slice none 0 0] 45
  simpa using q)
 have HK : Hid (∀ W, Below X.heap.size X W → W.cell? ⟨bx, 0, none⟩ = some (.slice ra S.ru.length rc) ∧ W.cell? ⟨bx, 1, none⟩ = some (.slice za Z.length zc) ∧ W.cell? ⟨bx, 2, none⟩ = some (.slice la S.lk.length lc)) := Lib.hid (by
  have q : Blk X bx #[.slice ra S.ru.length rc, .slice za Z.length zc, .slice la S.lk.length lc] 27 := by rw [← hX, ← hbx]; exact (Blk.new _ _ _).below ((Below.refl _ _).alloc (Nat.le_refl _) _)
  exact fun W hW => ⟨(q.below hW).cell (j := 0) rfl, (q.below hW).cell (j := 1) rfl, (q.below hW).cell (j := 2) rfl⟩)
 try rw [hX]
 try rw [hbr]
 try rw [hbx]
 clear hX hbx hbr
 have HB0 : Hid (Below X.heap.size X X) := Lib.hid (Below.refl _ _)
 obtain ⟨q, hq⟩ : ∃ q, validB S = q := ⟨_, rfl⟩
 rw [hq] at HVA
 have HQ := Lib.hid hq
 clear hq
 obtain ⟨y00, y01, y02⟩ := HK.out _ HB0.out
 have z00 := HRB.out.frz 0
 have z01 := HRB.out.frz 1
 cases q with
 | false =>
  go_upto_region 2 with (first | (go_at_call 35; refine (HVA.out _ (keepBelow HBX.out HB0.out)).mono ?_; rintro e w1 ⟨rfl, hb1⟩; obtain ⟨W1, hW1⟩ : ∃ W, w1 = W := ⟨_, rfl⟩; rw [hW1] at hb1 ⊢; clear hW1; have HB1 : Hid (Below X.heap.size X W1) := Lib.hid (keepBelow HB0.out hb1); clear hb1) | fail)
  clear y00 y01 y02 z00 z01
  obtain ⟨y10, y11, y12⟩ := HK.out _ HB1.out
  have z10 := (HRB.out.below HB1.out).frz 0
  have z11 := (HRB.out.below HB1.out).frz 1
  have x10 := (HRB.out.below HB1.out).cell (j := 0) rfl
  have x11 := (HRB.out.below HB1.out).cell (j := 1) rfl
  have HR := Lib.hid (zon_inv (bsO N) HQ.out)
  go_wp2_with fail
  obtain ⟨r0, r1, HBF⟩ := fin2 (keepBelow HBX.out HB1.out) HBS.out (HRB.out.below HB1.out) (.string ⟨#[]⟩) (.slice none 0 0)
  refine bodyPost_ret (v := .tuple #[.agg #[.string ⟨#[]⟩, .slice none 0 0], .int .i64 1]) (by simp [results, Tryz.results20, go_sem, r0, r1]) rfl ?_
  exact ⟨_, by rw [HR.out]; rfl, by rw [HR.out]; exact rdli_nil _, HBF⟩
 | true =>
  have HLB := fun (li : List LiT) {p : Prop} (_ : p) (n : Nat) (h : n < Z.length) {x : ZkT} (e : Z.getD n zk0 = x) => zk_lin (S := S) (Z := Z) HQ.out HS.out.zs h e
  go_upto_region 3 with (first | (go_at_call 35; refine (HVA.out _ (keepBelow HBX.out HB0.out)).mono ?_; rintro e w1 ⟨rfl, hb1⟩; obtain ⟨W1, hW1⟩ : ∃ W, w1 = W := ⟨_, rfl⟩; rw [hW1] at hb1 ⊢; clear hW1; have HB1 : Hid (Below X.heap.size X W1) := Lib.hid (keepBelow HB0.out hb1); clear hb1) | fail)
  clear y00 y01 y02 z00 z01
  obtain ⟨y10, y11, y12⟩ := HK.out _ HB1.out
  have z10 := (HRB.out.below HB1.out).frz 0
  have z11 := (HRB.out.below HB1.out).frz 1
  have x10 := (HRB.out.below HB1.out).cell (j := 0) rfl
  have x11 := (HRB.out.below HB1.out).cell (j := 1) rfl
  have HRL := Lib.hid HS.out.lk
  go_wp2_with fail
  go_loopw [1, 7, 17] (fun u1 _ u wr => u1 = .string N ∧ ∃ i : Nat, u = .int .i64 i ∧ i ≤ S.lk.length ∧ Hid (∀ j, j < i → ((S.lk.getD j lk0).nm == bsO N) = false) ∧ Hid (Below X.heap.size X wr)) (fun _ _ u _ => S.lk.length - (intOf u).toNat)
  case atStart => exact ⟨rfl, 0, rfl, Nat.zero_le _, Lib.hid fun j hj => by omega, HB1⟩
  case round =>
   obtain ⟨rfl, i, rfl, hi, HNO, HBR⟩ := hrel
   by_cases hlt : i < S.lk.length
   ·have hlt2 : (i : Int) < (S.lk.length : Int) := by omega
    have hi0 : (0 : Int) ≤ (i : Int) := Int.natCast_nonneg _
    obtain ⟨_, _, e, _, hc⟩ := HRL.out
    cases e
    obtain ⟨b, o, rfl, hcc⟩ := hc i hlt
    clear hc
    obtain ⟨x, hx⟩ : ∃ x, S.lk.getD i lk0 = x := ⟨_, rfl⟩
    rw [hx] at hcc
    obtain ⟨xn, xz⟩ := x
    obtain ⟨M, rfl⟩ := bs_of xz
    obtain ⟨XN, rfl⟩ := bs_of xn
    have e0 : wr.cell? ⟨b, o + i * 2, none⟩ = some (.string XN) := keepCell (keepBelow HBX.out HBR.out) (hcc 0 _ (by decide) rfl)
    have e1 : wr.cell? ⟨b, o + i * 2 + 1, none⟩ = some (.string M) := keepCell (keepBelow HBX.out HBR.out) (hcc 1 _ (by decide) rfl)
    have HX := Lib.hid hx
    clear hcc hx
    go_upto_region 6 with fail
    obtain ⟨V2, hV2⟩ : ∃ V, wr.alloc (.cells #[.string XN, .string M] 48) = V := ⟨_, rfl⟩
    have HB2 : Hid (Below X.heap.size X V2) := Lib.hid (by rw [← hV2]; exact HBR.out.alloc HBR.out.size _)
    obtain ⟨bv, hbv⟩ : ∃ b, wr.heap.size = b := ⟨_, rfl⟩
    have HVL : Hid (Blk V2 bv #[.string XN, .string M] 48) := Lib.hid (by rw [← hV2, ← hbv]; exact Blk.new _ _ _)
    try rw [hV2]
    try rw [hbv]
    clear hV2 hbv e0 e1
    have e0 := HVL.out.cell (j := 0) rfl
    have e1 := HVL.out.cell (j := 1) rfl
    have hEQ := eqB_iff XN N
    obtain ⟨g, hg⟩ : ∃ g, (bsO XN == bsO N) = g := ⟨_, rfl⟩
    rw [hg] at hEQ
    have HG : Hid (((S.lk.getD i lk0).nm == bsO N) = g) := Lib.hid (by rw [HX.out]; exact hg)
    clear hg
    cases g with
    | false =>
     have HN2 : Hid (∀ j, j < i + 1 → ((S.lk.getD j lk0).nm == bsO N) = false) := Lib.hid fun j hj => by
      rcases Nat.lt_succ_iff_lt_or_eq.1 hj with h | rfl
      ·exact HNO.out j h
      ·exact HG.out
     go_wp2_with fail
     go_roundw
     case rel => exact ⟨rfl, i + 1, by go_num, by omega, HN2, HB2⟩
     case measure => simp [intOf]; omega
    | true =>
     have HLQ : Hid (lkQ S.lk (bsO N) = bsO M) := Lib.hid (by
      unfold lkQ
      rw [fIx_at hlt HNO.out HG.out, if_neg (by omega), Int.toNat_natCast, HX.out])
     go_upto_region 9 with fail
     clear e0 e1 hEQ hlt2 hi0 HBR HG HNO HX HVL
     obtain ⟨y20, y21, y22⟩ := HK.out _ HB2.out
     go_wp2_with fail
     go_loopw [9, 31] (fun _ u wr => ∃ i : Nat, u = .int .i64 i ∧ i ≤ Z.length ∧ Hid (∀ j, j < i → ((Z.getD j zk0).1.nm == bsO M) = false) ∧ Hid (Below X.heap.size X wr)) (fun _ u _ => Z.length - (intOf u).toNat)
     case atStart => exact ⟨0, rfl, Nat.zero_le _, Lib.hid fun j hj => by omega, HB2⟩
     case round =>
      obtain ⟨n, rfl, hn, HNZ, HBT⟩ := hrel
      by_cases hlz2 : n < Z.length
      ·have hlt3 : (n : Int) < (Z.length : Int) := by omega
       have hn0 : (0 : Int) ≤ (n : Int) := Int.natCast_nonneg _
       have HLW := Lib.hid (HS.out.zo.li n hlz2)
       obtain ⟨_, _, e, _, hc⟩ := HS.out.zo.row
       cases e
       obtain ⟨b6, o6, rfl, hcc⟩ := hc n hlz2
       clear hc
       obtain ⟨z, hz⟩ : ∃ z, Z.getD n zk0 = z := ⟨_, rfl⟩
       have HZE := Lib.hid hz
       rw [hz] at hcc HLW
       obtain ⟨⟨nm, li⟩, lv⟩ := z
       have HLI : Hid (RdLi w lv li) := HLW
       clear HLW
       obtain ⟨ai, ci, rfl⟩ := HLI.out.form
       obtain ⟨NM, rfl⟩ := bs_of nm
       clear hz
       have e0 : wr.cell? ⟨b6, o6 + n * 2, none⟩ = some (.string NM) := keepCell (keepBelow HBX.out HBT.out) (hcc 0 _ (by decide) rfl)
       have e1 : wr.cell? ⟨b6, o6 + n * 2 + 1, none⟩ = some (.slice ai li.length ci) := keepCell (keepBelow HBX.out HBT.out) (hcc 1 _ (by decide) rfl)
       clear hcc
       go_upto_region 12 with fail
       obtain ⟨bz, hbz⟩ : ∃ b, wr.heap.size = b := ⟨_, rfl⟩
       obtain ⟨V, hV⟩ : ∃ V, wr.alloc (.cells #[.string NM, .slice ai li.length ci] 45) = V := ⟨_, rfl⟩
       have HVZ : Hid (Blk V bz #[.string NM, .slice ai li.length ci] 45) := Lib.hid (by rw [← hV, ← hbz]; exact Blk.new _ _ _)
       have HBV : Hid (Below X.heap.size X V) := Lib.hid (by rw [← hV]; exact HBT.out.alloc HBT.out.size _)
       have HSX : Hid (X.heap.size ≤ bz) := Lib.hid (by rw [← hbz]; exact HBT.out.size)
       try rw [hV]
       try rw [hbz]
       clear hV hbz e0 e1
       have v0 := HVZ.out.cell (j := 0) rfl
       have v1 := HVZ.out.cell (j := 1) rfl
       have hEQ := eqB_iff NM M
       obtain ⟨g, hg⟩ : ∃ g, (bsO NM == bsO M) = g := ⟨_, rfl⟩
       rw [hg] at hEQ
       have HG : Hid (((Z.getD n zk0).1.nm == bsO M) = g) := Lib.hid (by rw [HZE.out]; exact hg)
       clear hg
       cases g with
       | false =>
        have HN2 : Hid (∀ j, j < n + 1 → ((Z.getD j zk0).1.nm == bsO M) = false) := Lib.hid fun j hj => by
         rcases Nat.lt_succ_iff_lt_or_eq.1 hj with h | rfl
         ·exact HNZ.out j h
         ·exact HG.out
        go_wp2_with fail
        go_roundw
        case rel => exact ⟨n + 1, by go_num, by omega, HN2, HBV⟩
        case measure => simp [intOf]; omega
       | true =>
        have HR : Hid (zonM S (bsO N) = ((⟨bsO NM, li⟩ : ZoT), 0)) := Lib.hid (by
         rw [zon_some HQ.out HLQ.out (i := n) (by rw [← HS.out.zs, fIx_map]; exact fIx_at hlz2 HNZ.out HG.out), zo_at HS.out.zs hlz2, HZE.out])
        go_upto_region 13 with fail
        go_upto_region 14 with (first | (go_at_call 77; refine (clone_line _ li _ (HLI.out.below (keepBelow HBX.out HBV.out)) (HLB li HG.out n hlz2 HZE.out) (fun z _ => one_li z)).mono ?_; rintro e w5 ⟨v5, rfl, ho5, hb5⟩; obtain ⟨W5, hW5⟩ : ∃ W, w5 = W := ⟨_, rfl⟩; rw [hW5] at ho5 hb5 ⊢; clear hW5; obtain ⟨a5, c5, rfl⟩ := ho5.form; have HO5 := Lib.hid ho5; have HB5 := Lib.hid hb5; clear ho5 hb5; have f1 := (HVZ.out.below HB5.out).frz 1; have f1' := (HVZ.out.below HB5.out).cell (j := 1) rfl) | fail)
        have HLT : Hid (bz < V.heap.size ∧ br < V.heap.size) := Lib.hid ⟨HVZ.out.lt, Nat.lt_of_lt_of_le HRB.out.lt HBV.out.size⟩
        obtain ⟨V6, hV6⟩ : ∃ V, W5.setCell ⟨bz, 1, none⟩ (.slice a5 li.length c5) = V := ⟨_, rfl⟩
        have hk6 : Blk V6 bz #[.string NM, .slice a5 li.length c5] 45 := by rw [← hV6]; exact (HVZ.out.below HB5.out).set (j := 1) _
        have HB6 : Hid (Below X.heap.size X V6) := Lib.hid (by rw [← hV6]; exact (keepBelow HBV.out HB5.out).setCell (p := ⟨bz, 1, none⟩) HSX.out _)
        have HO6 : Hid (OwnG 102 12 flLi V6 V.heap.size (.slice a5 li.length c5) li) := Lib.hid (by rw [← hV6]; exact HO5.out.same fun g q => set_far (fun e => by have := (World.ownsRow.lt HO5.out g q).1; have := HLT.out.1; omega))
        try rw [hV6]
        clear hV6 v0 v1 f1 f1'
        have v0 := hk6.cell (j := 0) rfl
        have v1 := hk6.cell (j := 1) rfl
        have z0 := (HRB.out.below HB6.out).frz 0
        have z1 := (HRB.out.below HB6.out).frz 1
        have x0 := (HRB.out.below HB6.out).cell (j := 0) rfl
        have x1 := (HRB.out.below HB6.out).cell (j := 1) rfl
        go_wp2_with fail
        obtain ⟨r0, r1, HBF⟩ := fin2 (keepBelow HBX.out HB6.out) HBS.out (HRB.out.below HB6.out) (.string NM) (.slice a5 li.length c5)
        refine bodyPost_ret (v := .tuple #[.agg #[.string NM, .slice a5 li.length c5], .int .i64 0]) (by simp [results, Tryz.results20, go_sem, r0, r1]) rfl ?_
        exact ⟨_, by rw [HR.out], by rw [HR.out]; exact (HO6.out.same fun g q => (set_far (fun e => by have := (World.ownsRow.lt HO6.out g q).1; have := HLT.out.2; omega)).trans (set_far (fun e => by have := (World.ownsRow.lt HO6.out g q).1; have := HLT.out.2; omega))).rd flLi_len (HLB li HG.out n hlz2 HZE.out), HBF⟩
      ·have HR : Hid (zonM S (bsO N) = (zo00, 7)) := Lib.hid (zon_none HQ.out HLQ.out (by rw [← HS.out.zs, fIx_map, fIx_none (d := zk0) (fun j hj => HNZ.out j (by omega))]; decide))
       have hlz3 : ¬(n : Int) < (Z.length : Int) := by omega
       have z0 := (HRB.out.below HBT.out).frz 0
       have z1 := (HRB.out.below HBT.out).frz 1
       have x0 := (HRB.out.below HBT.out).cell (j := 0) rfl
       have x1 := (HRB.out.below HBT.out).cell (j := 1) rfl
       go_wp2_with fail
       obtain ⟨r0, r1, HBF⟩ := fin2 (keepBelow HBX.out HBT.out) HBS.out (HRB.out.below HBT.out) (.string ⟨#[]⟩) (.slice none 0 0)
       refine bodyPost_ret (v := .tuple #[.agg #[.string ⟨#[]⟩, .slice none 0 0], .int .i64 7]) (by simp [results, Tryz.results20, go_sem, r0, r1]) rfl ?_
       exact ⟨_, by rw [HR.out]; rfl, by rw [HR.out]; exact rdli_nil _, HBF⟩
   ·have HLQ : Hid (lkQ S.lk (bsO N) = bsO N) := Lib.hid (by unfold lkQ; rw [if_pos (by rw [fIx_none (d := lk0) (fun j hj => HNO.out j (by omega))]; decide)])
    have hlt2 : ¬(i : Int) < (S.lk.length : Int) := by omega
    generalize wr = W2 at *
    have HB2 := HBR
    obtain ⟨y20, y21, y22⟩ := HK.out _ HB2.out
    go_wp2_with fail
    go_loopw [9, 31] (fun _ u wr => ∃ i : Nat, u = .int .i64 i ∧ i ≤ Z.length ∧ Hid (∀ j, j < i → ((Z.getD j zk0).1.nm == bsO N) = false) ∧ Hid (Below X.heap.size X wr)) (fun _ u _ => Z.length - (intOf u).toNat)
    case atStart => exact ⟨0, rfl, Nat.zero_le _, Lib.hid fun j hj => by omega, HB2⟩
    case round =>
     obtain ⟨n, rfl, hn, HNZ, HBT⟩ := hrel
     by_cases hlz2 : n < Z.length
     ·have hlt3 : (n : Int) < (Z.length : Int) := by omega
      have hn0 : (0 : Int) ≤ (n : Int) := Int.natCast_nonneg _
      have HLW := Lib.hid (HS.out.zo.li n hlz2)
      obtain ⟨_, _, e, _, hc⟩ := HS.out.zo.row
      cases e
      obtain ⟨b6, o6, rfl, hcc⟩ := hc n hlz2
      clear hc
      obtain ⟨z, hz⟩ : ∃ z, Z.getD n zk0 = z := ⟨_, rfl⟩
      have HZE := Lib.hid hz
      rw [hz] at hcc HLW
      obtain ⟨⟨nm, li⟩, lv⟩ := z
      have HLI : Hid (RdLi w lv li) := HLW
      clear HLW
      obtain ⟨ai, ci, rfl⟩ := HLI.out.form
      obtain ⟨NM, rfl⟩ := bs_of nm
      clear hz
      have e0 : wr.cell? ⟨b6, o6 + n * 2, none⟩ = some (.string NM) := keepCell (keepBelow HBX.out HBT.out) (hcc 0 _ (by decide) rfl)
      have e1 : wr.cell? ⟨b6, o6 + n * 2 + 1, none⟩ = some (.slice ai li.length ci) := keepCell (keepBelow HBX.out HBT.out) (hcc 1 _ (by decide) rfl)
      clear hcc
      go_upto_region 12 with fail
      obtain ⟨bz, hbz⟩ : ∃ b, wr.heap.size = b := ⟨_, rfl⟩
      obtain ⟨V, hV⟩ : ∃ V, wr.alloc (.cells #[.string NM, .slice ai li.length ci] 45) = V := ⟨_, rfl⟩
      have HVZ : Hid (Blk V bz #[.string NM, .slice ai li.length ci] 45) := Lib.hid (by rw [← hV, ← hbz]; exact Blk.new _ _ _)
      have HBV : Hid (Below X.heap.size X V) := Lib.hid (by rw [← hV]; exact HBT.out.alloc HBT.out.size _)
      have HSX : Hid (X.heap.size ≤ bz) := Lib.hid (by rw [← hbz]; exact HBT.out.size)
      try rw [hV]
      try rw [hbz]
      clear hV hbz e0 e1
      have v0 := HVZ.out.cell (j := 0) rfl
      have v1 := HVZ.out.cell (j := 1) rfl
      have hEQ := eqB_iff NM N
      obtain ⟨g, hg⟩ : ∃ g, (bsO NM == bsO N) = g := ⟨_, rfl⟩
      rw [hg] at hEQ
      have HG : Hid (((Z.getD n zk0).1.nm == bsO N) = g) := Lib.hid (by rw [HZE.out]; exact hg)
      clear hg
      cases g with
      | false =>
       have HN2 : Hid (∀ j, j < n + 1 → ((Z.getD j zk0).1.nm == bsO N) = false) := Lib.hid fun j hj => by
        rcases Nat.lt_succ_iff_lt_or_eq.1 hj with h | rfl
        ·exact HNZ.out j h
        ·exact HG.out
       go_wp2_with fail
       go_roundw
       case rel => exact ⟨n + 1, by go_num, by omega, HN2, HBV⟩
       case measure => simp [intOf]; omega
      | true =>
       have HR : Hid (zonM S (bsO N) = ((⟨bsO NM, li⟩ : ZoT), 0)) := Lib.hid (by
        rw [zon_some HQ.out HLQ.out (i := n) (by rw [← HS.out.zs, fIx_map]; exact fIx_at hlz2 HNZ.out HG.out), zo_at HS.out.zs hlz2, HZE.out])
       go_upto_region 13 with fail
       go_upto_region 14 with (first | (go_at_call 77; refine (clone_line _ li _ (HLI.out.below (keepBelow HBX.out HBV.out)) (HLB li HG.out n hlz2 HZE.out) (fun z _ => one_li z)).mono ?_; rintro e w5 ⟨v5, rfl, ho5, hb5⟩; obtain ⟨W5, hW5⟩ : ∃ W, w5 = W := ⟨_, rfl⟩; rw [hW5] at ho5 hb5 ⊢; clear hW5; obtain ⟨a5, c5, rfl⟩ := ho5.form; have HO5 := Lib.hid ho5; have HB5 := Lib.hid hb5; clear ho5 hb5; have f1 := (HVZ.out.below HB5.out).frz 1; have f1' := (HVZ.out.below HB5.out).cell (j := 1) rfl) | fail)
       have HLT : Hid (bz < V.heap.size ∧ br < V.heap.size) := Lib.hid ⟨HVZ.out.lt, Nat.lt_of_lt_of_le HRB.out.lt HBV.out.size⟩
       obtain ⟨V6, hV6⟩ : ∃ V, W5.setCell ⟨bz, 1, none⟩ (.slice a5 li.length c5) = V := ⟨_, rfl⟩
       have hk6 : Blk V6 bz #[.string NM, .slice a5 li.length c5] 45 := by rw [← hV6]; exact (HVZ.out.below HB5.out).set (j := 1) _
       have HB6 : Hid (Below X.heap.size X V6) := Lib.hid (by rw [← hV6]; exact (keepBelow HBV.out HB5.out).setCell (p := ⟨bz, 1, none⟩) HSX.out _)
       have HO6 : Hid (OwnG 102 12 flLi V6 V.heap.size (.slice a5 li.length c5) li) := Lib.hid (by rw [← hV6]; exact HO5.out.same fun g q => set_far (fun e => by have := (World.ownsRow.lt HO5.out g q).1; have := HLT.out.1; omega))
       try rw [hV6]
       clear hV6 v0 v1 f1 f1'
       have v0 := hk6.cell (j := 0) rfl
       have v1 := hk6.cell (j := 1) rfl
       have z0 := (HRB.out.below HB6.out).frz 0
       have z1 := (HRB.out.below HB6.out).frz 1
       have x0 := (HRB.out.below HB6.out).cell (j := 0) rfl
       have x1 := (HRB.out.below HB6.out).cell (j := 1) rfl
       go_wp2_with fail
       obtain ⟨r0, r1, HBF⟩ := fin2 (keepBelow HBX.out HB6.out) HBS.out (HRB.out.below HB6.out) (.string NM) (.slice a5 li.length c5)
       refine bodyPost_ret (v := .tuple #[.agg #[.string NM, .slice a5 li.length c5], .int .i64 0]) (by simp [results, Tryz.results20, go_sem, r0, r1]) rfl ?_
       exact ⟨_, by rw [HR.out], by rw [HR.out]; exact (HO6.out.same fun g q => (set_far (fun e => by have := (World.ownsRow.lt HO6.out g q).1; have := HLT.out.2; omega)).trans (set_far (fun e => by have := (World.ownsRow.lt HO6.out g q).1; have := HLT.out.2; omega))).rd flLi_len (HLB li HG.out n hlz2 HZE.out), HBF⟩
     ·have HR : Hid (zonM S (bsO N) = (zo00, 7)) := Lib.hid (zon_none HQ.out HLQ.out (by rw [← HS.out.zs, fIx_map, fIx_none (d := zk0) (fun j hj => HNZ.out j (by omega))]; decide))
      have hlz3 : ¬(n : Int) < (Z.length : Int) := by omega
      have z0 := (HRB.out.below HBT.out).frz 0
      have z1 := (HRB.out.below HBT.out).frz 1
      have x0 := (HRB.out.below HBT.out).cell (j := 0) rfl
      have x1 := (HRB.out.below HBT.out).cell (j := 1) rfl
      go_wp2_with fail
      obtain ⟨r0, r1, HBF⟩ := fin2 (keepBelow HBX.out HBT.out) HBS.out (HRB.out.below HBT.out) (.string ⟨#[]⟩) (.slice none 0 0)
      refine bodyPost_ret (v := .tuple #[.agg #[.string ⟨#[]⟩, .slice none 0 0], .int .i64 7]) (by simp [results, Tryz.results20, go_sem, r0, r1]) rfl ?_
      exact ⟨_, by rw [HR.out]; rfl, by rw [HR.out]; exact rdli_nil _, HBF⟩
end Go.Proofs.YtlbglinpgjlbkaaGreatDoor
