import Derived.Test.YtlbglinpgjlbkaaGreatDoorWkQq
/- Zone texts: the program's Parse, walked. Printed by gen_p2.py. -/
namespace Go.Proofs.YtlbglinpgjlbkaaGreatDoor
open Go.RowKit Wk Go.Maps

set_option maxRecDepth 100000 in
set_option maxHeartbeats 8000000 in
theorem parse_any (s : ByteArray) (hs : s.size < 4294967281) (w : World) (hg : Glob w) :
  Calls Tryz.prog 12 #[.string s] w (ParP (bsO s) w) := by
 have hmm := @run_makeMap Tryz.prog
 have HG := Lib.hid hg
 have HLB := Lib.hid (linesM_b (bsO s) (by rw [bs_len]; omega))
 have HLI : Hid (∀ w', Below w.heap.size w w' → Calls Tryz.prog 42 #[.string s] w' (LinP (bsO s) w')) := Lib.hid fun w' hb => lines_any s hs w' (hg.below hb)
 obtain ⟨r, hr⟩ : ∃ r, linesM (bsO s) = r := ⟨_, rfl⟩
 have HPM : Hid (parseM (bsO s) = (if r.2.2 ≠ 0 then (sr0, r.2.1, r.2.2) else match readS r.1 sr0 with
  | .inr e => (sr0, e.1, e.2)
  | .inl s => if s.zo.any (fun z => !doneB z) = true then (sr0, (0, 0), 4) else if (checkM s).2 ≠ 0 then (sr0, (0, 0), (checkM s).2) else (s, (0, 0), 0))) := Lib.hid (by rw [← hr]; rfl)
 unfold LinP at HLI
 rw [hr] at HLB HLI
 clear hr hg hs
 obtain ⟨LL, ⟨pl, pc⟩, er⟩ := r
 simp only at HLB HPM
 have HLI2 : Hid (∀ w', Below w.heap.size w w' → Calls Tryz.prog 42 #[.string s] w' fun e w'' => ∃ v, e = .returned (.tuple #[v, .agg #[.int .i64 pl, .int .i64 pc], .int .i64 er]) ∧ OwnLn w'' w'.heap.size v LL ∧ Below w'.heap.size w' w'') := HLI
 clear HLI
 go_enter Tryz.func12, Tryz.ntmps12
 go_upto_region 1 with fail
 obtain ⟨b2, hb2⟩ : ∃ b, w.heap.size = b := ⟨_, rfl⟩
 obtain ⟨b3, hb3⟩ : ∃ b, w.heap.size + 1 = b := ⟨_, rfl⟩
 obtain ⟨X, hX⟩ : ∃ X, (w.alloc (.cells #[.slice none 0 0, .slice none 0 0, .slice none 0 0] 27)).alloc (.cells #[.int .i64 0, .int .i64 0] 29) = X := ⟨_, rfl⟩
 have HBX : Hid (Below w.heap.size w X) := Lib.hid (by rw [← hX]; exact ((Below.refl _ w).alloc (Nat.le_refl _) _).alloc (by simp) _)
 have HX2 : Hid (Blk X b2 #[.slice none 0 0, .slice none 0 0, .slice none 0 0] 27) := Lib.hid (by rw [← hX, ← hb2]; exact (Blk.new w _ _).below ((Below.refl _ _).alloc (Nat.le_refl _) _))
 have HX3 : Hid (Blk X b3 #[.int .i64 0, .int .i64 0] 29) := Lib.hid (by
  rw [← hX, ← hb3]
  have q := Blk.new (w.alloc (.cells #[.slice none 0 0, .slice none 0 0, .slice none 0 0] 27)) #[.int .i64 0, .int .i64 0] 29
  simpa using q)
 have HBL : Hid (w.heap.size ≤ b2 ∧ w.heap.size ≤ b3 ∧ b2 ≠ b3) := Lib.hid (by omega)
 have HBS : Hid (b2 < X.heap.size ∧ b3 < X.heap.size) := Lib.hid ⟨HX2.out.lt, HX3.out.lt⟩
 have hn23 : b2 ≠ b3 := HBL.out.2.2
 have hn32 : b3 ≠ b2 := Ne.symm HBL.out.2.2
 try rw [hX]
 try rw [hb3]
 try rw [hb2]
 clear hX hb2 hb3
 go_upto_region 2 with (first | (go_at_call 42; refine (HLI2.out _ HBX.out).mono ?_; rintro e w1 ⟨v, rfl, ho, hb⟩; obtain ⟨V, hV⟩ : ∃ V, w1 = V := ⟨_, rfl⟩; rw [hV] at ho hb ⊢; clear hV; obtain ⟨ga, gc, rfl⟩ := ho.form; have HLL := Lib.hid ho; have HXV := Lib.hid hb; clear ho hb) | fail)
 have HR2 := Lib.hid (HX2.out.below HXV.out)
 have HR3 := Lib.hid (HX3.out.below HXV.out)
 have HVB : Hid (Below w.heap.size w V) := Lib.hid (keepBelow HBX.out HXV.out)
 have HRW : Hid (∀ W, Below V.heap.size V W → (W.cell? ⟨b2, 0, none⟩ = some (.slice none 0 0) ∧ W.cell? ⟨b2, 1, none⟩ = some (.slice none 0 0) ∧ W.cell? ⟨b2, 2, none⟩ = some (.slice none 0 0) ∧ W.frozen? ⟨b2, 0, none⟩ = false ∧ W.frozen? ⟨b2, 1, none⟩ = false ∧ W.frozen? ⟨b2, 2, none⟩ = false) ∧ W.cell? ⟨b3, 0, none⟩ = some (.int .i64 0) ∧ W.cell? ⟨b3, 1, none⟩ = some (.int .i64 0) ∧ W.frozen? ⟨b3, 0, none⟩ = false ∧ W.frozen? ⟨b3, 1, none⟩ = false) := Lib.hid fun W hb => res_at (HR2.out.below hb) (HR3.out.below hb)
 obtain ⟨b6, hb6⟩ : ∃ b, V.heap.size = b := ⟨_, rfl⟩
 obtain ⟨Y, hY⟩ : ∃ Y, V.alloc (.cells #[.int .i64 pl, .int .i64 pc] 29) = Y := ⟨_, rfl⟩
 have HBY : Hid (Below V.heap.size V Y) := Lib.hid (by rw [← hY]; exact (Below.refl _ _).alloc (Nat.le_refl _) _)
 have HY6 : Hid (Blk Y b6 #[.int .i64 pl, .int .i64 pc] 29) := Lib.hid (by rw [← hY, ← hb6]; exact Blk.new _ _ _)
 have hn62 : b6 ≠ b2 := by rw [← hb6]; exact Nat.ne_of_gt HR2.out.lt
 have hn63 : b6 ≠ b3 := by rw [← hb6]; exact Nat.ne_of_gt HR3.out.lt
 try rw [hY]
 try rw [hb6]
 clear hY hb6
 cases hr : (er != 0) with
 | true =>
  have HRE : Hid (parseM (bsO s) = (sr0, (pl, pc), er)) := Lib.hid (by rw [HPM.out]; exact if_pos (by simpa using hr))
  have p0 := HY6.out.cell (j := 0) rfl
  have p1 := HY6.out.cell (j := 1) rfl
  go_upto_region 3 with fail
  have y0 : Y.drew.cell? ⟨b6, 0, none⟩ = some (.int .i64 pl) := p0
  have y1 : Y.drew.cell? ⟨b6, 1, none⟩ = some (.int .i64 pc) := p1
  have hb2 := (HR2.out.below HBY.out).cell (j := 0) rfl
  have hb3 := HRW.out Y HBY.out
  obtain ⟨⟨c20, c21, c22, f20, f21, f22⟩, c30, c31, f30, f31⟩ := hb3
  clear hb2
  have hz := res_w (HR2.out.below HBY.out) (HR3.out.below HBY.out) (keepBelow HVB.out HBY.out) HBL.out.1 HBL.out.2.1 HBL.out.2.2 (.slice none 0 0) (.slice none 0 0) (.slice none 0 0) (pl) (pc)
  obtain ⟨Z', hZ⟩ : ∃ Z', (((((Y.setCell ⟨b2, 0, none⟩ (.slice none 0 0)).setCell ⟨b2, 1, none⟩ (.slice none 0 0)).setCell ⟨b2, 2, none⟩ (.slice none 0 0)).setCell ⟨b3, 0, none⟩ (.int .i64 (pl))).setCell ⟨b3, 1, none⟩ (.int .i64 (pc))) = Z' := ⟨_, rfl⟩
  rw [hZ] at hz
  have HBZ : Hid (Below w.heap.size w Z'.drew) := Lib.hid (hz.1.drew)
  have r0 : Z'.drew.cell? ⟨b2, 0, none⟩ = some (.slice none 0 0) := hz.2.1
  have r1 : Z'.drew.cell? ⟨b2, 1, none⟩ = some (.slice none 0 0) := hz.2.2.1
  have r2 : Z'.drew.cell? ⟨b2, 2, none⟩ = some (.slice none 0 0) := hz.2.2.2.1
  have r3 : Z'.drew.cell? ⟨b3, 0, none⟩ = some (.int .i64 (pl)) := hz.2.2.2.2.1
  have r4 : Z'.drew.cell? ⟨b3, 1, none⟩ = some (.int .i64 (pc)) := hz.2.2.2.2.2
  clear hz
  go_region
  all_goals go_wp2_with fail
  all_goals refine bodyPost_ret (v := .tuple #[.agg #[.slice none 0 0, .slice none 0 0, .slice none 0 0], .agg #[.int .i64 (pl), .int .i64 (pc)], .int .i64 (er)]) (by simp [results, Tryz.results12, go_sem, r0, r1, r2, r3, r4]) rfl ?_
  all_goals exact par_no HRE.out rfl rfl rfl HBZ.out
 | false =>
 obtain rfl : er = 0 := by simpa using hr
 have HPM2 : Hid (parseM (bsO s) = (match readS LL sr0 with
  | .inr e => (sr0, e.1, e.2)
  | .inl s => if s.zo.any (fun z => !doneB z) = true then (sr0, (0, 0), 4) else if (checkM s).2 ≠ 0 then (sr0, (0, 0), (checkM s).2) else (s, (0, 0), 0))) := Lib.hid (by rw [HPM.out]; exact if_neg (by simp))
 clear HPM hr HX2 HX3 HLI2
 go_upto_region 5 with fail
 obtain ⟨sb, hsb⟩ : ∃ b, Y.heap.size = b := ⟨_, rfl⟩
 obtain ⟨W0, hW0⟩ : ∃ W, Y.alloc (.cells #[.slice none 0 0, .slice none 0 0, .slice none 0 0] 27) = W := ⟨_, rfl⟩
 have HSM0 : Hid (SrcM V.heap.size sb sr0 (.slice none 0 0) (.slice none 0 0) (.slice none 0 0) [] W0) := Lib.hid (by rw [← hW0, ← hsb]; exact SrcM.start (Blk.new _ _ _) HBY.out.size)
 have HBW0 : Hid (Below V.heap.size V W0) := Lib.hid (by rw [← hW0]; exact HBY.out.alloc HBY.out.size _)
 try rw [hW0]
 try rw [hsb]
 clear hW0 hsb
 have hLL : (LL.length : Int) ≤ 65537 := by have := HLB.out.2; omega
 have HGV : Hid (Glob V) := Lib.hid (HG.out.below HVB.out)
 go_wp2_with fail
 go_loopw [10, 11, 12, 13, 14, 30] (fun _ _ _ _ _ u30 wr => ∃ (i : Nat) (sr : SrT) (rv zv lv : Value) (Z : List ZkT), u30 = .int .i64 i ∧ i ≤ LL.length ∧ Hid (SrcM V.heap.size sb sr rv zv lv Z wr) ∧ Hid (Below V.heap.size V wr) ∧ Hid (LnB i sr) ∧ Hid (readS (LL.drop i) sr = readS LL sr0)) (fun _ _ _ _ _ u _ => LL.length - (intOf u).toNat)
 case atStart => exact ⟨0, sr0, _, _, _, _, rfl, Nat.zero_le _, HSM0.out, HBW0.out, LnB.start, rfl⟩
 case round =>
  obtain ⟨i, sr, rv, zv, lv, Z, rfl, hi, HSM, HBr, HLN, HRI⟩ := hrel
  by_cases hlt : i < LL.length
  ·have hmem : LL.getD i [] ∈ LL := getD_mem hlt
   have HWB := Lib.hid (HLB.out.1 _ hmem)
   obtain ⟨g, gc2, wv, hv, hcell, hrd, hlo⟩ := HLL.out.at (d := tok0) flT_len hlt HWB.out.2.2
   obtain rfl : ga = some ⟨g, 0, none⟩ := by injection hv
   have HDR : Hid (LL.drop i = LL.getD i [] :: LL.drop (i + 1)) := Lib.hid (by rw [List.drop_eq_getElem_cons hlt, List.getD_eq_getElem?_getD, List.getElem?_eq_getElem hlt]; rfl)
   obtain ⟨ws, hws⟩ : ∃ ws, LL.getD i [] = ws := ⟨_, rfl⟩
   rw [hws] at hrd HWB HDR
   obtain ⟨wb, wo, wc, rfl, -, t1, t2⟩ := RdTk.at hrd (k := 0) (by have := HWB.out.2.1; omega)
   have hq : wr.cell? ⟨g, i, none⟩ = some (.slice (some ⟨wb, wo, none⟩) ws.length wc) := keepCell HBr.out hcell
   have hlt2 : (i : Int) < (LL.length : Int) := by omega
   obtain ⟨t, ht⟩ : ∃ t, ws.getD 0 tok0 = t := ⟨_, rfl⟩
   rw [ht] at t1 t2
   have HTE := Lib.hid ht
   have hwb2 : wb ≠ b2 := by have q := hlo wb rfl; have := HBS.out.1; omega
   have hwb3 : wb ≠ b3 := by have q := hlo wb rfl; have := HBS.out.2; omega
   have HT12 : Hid (V.cell? ⟨wb, wo + 1, none⟩ = some (.int .i64 t.ln) ∧ V.cell? ⟨wb, wo + 2, none⟩ = some (.int .i64 t.co)) := Lib.hid ⟨by simpa using t1, by simpa using t2⟩
   have hwl : (0 : Int) < (ws.length : Int) := by have := HWB.out.2.1; omega
   have HRC : Hid (∀ rb, V.heap.size ≤ rb → RCtx V rb (.slice (some ⟨wb, wo, none⟩) ws.length wc) ws) := Lib.hid fun rb hrb => ⟨hrd, hrb, HWB.out.2.1, HWB.out.1, by have := HWB.out.2.2; omega⟩
   clear hmem hv hcell hrd hws t1 t2 ht hlo
   go_upto_region 9 with fail
   obtain ⟨rb, hrb⟩ : ∃ b, wr.heap.size = b := ⟨_, rfl⟩
   obtain ⟨W1, hW1⟩ : ∃ W, wr.alloc (.cells #[.int .i64 0, .int .i64 0, .int .i64 0, .slice (some ⟨wb, wo, none⟩) ws.length wc, .int .i64 0] 82) = W := ⟨_, rfl⟩
   have HB1 : Hid (Below wr.heap.size wr W1) := Lib.hid (by rw [← hW1]; exact (Below.refl _ _).alloc (Nat.le_refl _) _)
   have HK1 : Hid (Blk W1 rb #[.int .i64 0, .int .i64 0, .int .i64 0, .slice (some ⟨wb, wo, none⟩) ws.length wc, .int .i64 0] 82) := Lib.hid (by rw [← hW1, ← hrb]; exact Blk.new _ _ _)
   have HC : Hid (RCtx V rb (.slice (some ⟨wb, wo, none⟩) ws.length wc) ws) := Lib.hid (HRC.out rb (by rw [← hrb]; exact HBr.out.size))
   have hrb2 : rb ≠ b2 := by have := HBr.out.size; have := HR2.out.lt; omega
   have hrb3 : rb ≠ b3 := by have := HBr.out.size; have := HR3.out.lt; omega
   try rw [hW1]
   try rw [hrb]
   clear hW1 hrb HRC
   have hom0 := World.ownsMap_made (H := Unit) W1 Tryz.prog 9 (fnR rb)
   go_upto_region 10 with (first
    | ((with_reducible show wpList _ _ _ _ _ _); refine wpList_insert_own _ rfl (.tmp 37) _ _ 84 rfl 9 83 lawS Tryz.underlying84 (fnR rb) W1.heap.size 0 _ rfl hom0 (by decide) (.string ⟨#[114, 117, 108, 101]⟩) (fnV 43 rb) _ rfl rfl (Go.WideMaps.keyOf_string_mk Tryz.underlying9 (by decide)) _ [] (fnR_mk rb).1 ?_; intro w2 o2 g2)
    | ((with_reducible show wpList _ _ _ _ _ _); refine wpList_insert_own _ rfl (.tmp 37) _ _ 84 rfl 9 83 lawS Tryz.underlying84 (fnR rb) W1.heap.size 1 _ rfl o2 (by decide) (.string ⟨#[122, 111, 110, 101]⟩) (fnV 44 rb) _ rfl rfl (Go.WideMaps.keyOf_string_mk Tryz.underlying9 (by decide)) _ [] (fnR_mk rb).2.1 ?_; intro w3 o3 g3)
    | ((with_reducible show wpList _ _ _ _ _ _); refine wpList_insert_own _ rfl (.tmp 37) _ _ 84 rfl 9 83 lawS Tryz.underlying84 (fnR rb) W1.heap.size 2 _ rfl o3 (by decide) (.string ⟨#[108, 105, 110, 101]⟩) (fnV 45 rb) _ rfl rfl (Go.WideMaps.keyOf_string_mk Tryz.underlying9 (by decide)) _ [] (fnR_mk rb).2.2.1 ?_; intro w4 o4 g4)
    | ((with_reducible show wpList _ _ _ _ _ _); refine wpList_insert_own _ rfl (.tmp 37) _ _ 84 rfl 9 83 lawS Tryz.underlying84 (fnR rb) W1.heap.size 3 _ rfl o4 (by decide) (.string ⟨#[108, 105, 110, 107]⟩) (fnV 46 rb) _ rfl rfl (Go.WideMaps.keyOf_string_mk Tryz.underlying9 (by decide)) _ [] (fnR_mk rb).2.2.2.1 ?_; intro w5 o5 g5)
    | fail)
   obtain ⟨W4, hW4⟩ : ∃ W, w5 = W := ⟨_, rfl⟩
   rw [hW4] at o5 g5
   have HMP : Hid (W4.ownsMap Tryz.prog 9 (fnR rb) W1.heap.size 4 knD) := Lib.hid o5
   have HB4 : Hid (Below W1.heap.size W1 W4) := Lib.hid ((((Below.refl _ W1).alloc (Nat.le_refl _) _).trans (below_map g2 (Nat.le_refl _) (by simp))).trans ((below_map g3 (Nat.le_refl _) (by have := g2.size; simp at this; omega)).trans ((below_map g4 (Nat.le_refl _) (by have := g2.size; have := g3.size; simp at *; omega)).trans (below_map g5 (Nat.le_refl _) (by have := g2.size; have := g3.size; have := g4.size; simp at *; omega)))))
   try rw [hW4]
   clear hW4 o5 g5 o2 g2 o3 g3 o4 g4 hom0
   obtain ⟨mb, hmb⟩ : ∃ b, W1.heap.size = b := ⟨_, rfl⟩
   have HNE : Hid (mb ≠ rb) := Lib.hid (by rw [← hmb]; exact Nat.ne_of_gt HK1.out.lt)
   rw [hmb] at HMP
   try rw [hmb]
   clear hmb
   have HS4 : Hid (RSat V rb (.slice (some ⟨wb, wo, none⟩) ws.length wc) ws (st0 0) W4) := Lib.hid ⟨HK1.out.below HB4.out, keepBelow (keepBelow HBr.out HB1.out) HB4.out, Nat.zero_le _⟩
   have HM4 := Lib.hid ((HSM.out.below HB1.out).below HB4.out)
   obtain ⟨TT, hTT⟩ : ∃ TT : ByteArray, bsO TT = (ws.getD 0 tok0).tx := ⟨⟨(ws.getD 0 tok0).tx.toArray⟩, rfl⟩
   have HTT := Lib.hid hTT
   have HTS : Hid (TT.size ≤ maxLen) := Lib.hid (by
    have q := HWB.out.1 (ws.getD 0 tok0) (getD_mem (by have := HWB.out.2.1; omega))
    rw [← hTT, bs_len] at q
    exact Nat.le_trans q (by decide))
   have HWD : Hid (Calls Tryz.prog 47 #[.pointer (some ⟨rb, 0, none⟩)] W4 fun e w' => e = .returned (.string TT) ∧ RSat V rb (.slice (some ⟨wb, wo, none⟩) ws.length wc) ws (st0 1) w' ∧ W4.grownBy w' (some rb)) := Lib.hid (by
    have q := word_any HC.out (st0 0) W4 HS4.out
    rw [word_first HC.out.ne, ← hTT] at q
    exact q)
   clear hTT
   have HBD : Hid (sr.ru.length < 1000000 ∧ Z.length < 1000000 ∧ sr.lk.length < 1000000 ∧ ∀ i, i < Z.length → (Z.getD i zk0).1.li.length < 1000000) := Lib.hid (by
    have h1 := HLN.out
    have h2 := HLB.out.2
    have h3 := congrArg List.length HSM.out.zs
    rw [List.length_map] at h3
    have := h1.ru
    have := h1.zo
    have := h1.lk
    refine ⟨by omega, by omega, by omega, fun j hj => ?_⟩
    have h4 := h1.li (Z.getD j zk0).1 (by rw [← HSM.out.zs]; exact List.mem_map_of_mem (getD_mem hj))
    omega)
   have HERR : Hid (∀ (p : Nat × Nat) (e : Int), ((if (stepS ws sr).2.e = 0 then .inl (stepS ws sr).1 else .inr ((stepS ws sr).2.p, (stepS ws sr).2.e) : SrT ⊕ ((Nat × Nat) × Int)) = .inr (p, e)) → parseM (bsO s) = (sr0, p, e)) := Lib.hid fun p e hpe => by
    have q : readS LL sr0 = .inr (p, e) := by
     rw [← HRI.out, HDR.out]
     show (match lineStep ws sr with | .inl s' => _ | .inr e => _) = _
     rw [step_prog ws sr HC.out.ne, hpe]
    rw [HPM2.out, q]
   have hcase : (∃ (fnN : Nat) (s1 : RSt) (S1 : SrT), (∀ W, W.ownsMap Tryz.prog 9 (fnR rb) mb 4 knD → (Instr.lookup 84 (.map (some mb)) (.string TT) true).run Tryz.prog W = .ok (.tuple #[.func (.func fnN) #[.pointer (some ⟨rb, 0, none⟩)] #[], .bool true]) W) ∧
     (∀ W, RSat V rb (.slice (some ⟨wb, wo, none⟩) ws.length wc) ws (st0 1) W → SrcM V.heap.size sb sr rv zv lv Z W → Calls Tryz.prog fnN #[.pointer (some ⟨rb, 0, none⟩), .pointer (some ⟨sb, 0, none⟩)] W (LPost V rb (.slice (some ⟨wb, wo, none⟩) ws.length wc) ws sb s1 S1)) ∧ stepS ws sr = (S1, (endS ws s1).2) ∧ (fnN = 43 ∨ fnN = 44 ∨ fnN = 45 ∨ fnN = 46)) ∨
     ((∀ W, W.ownsMap Tryz.prog 9 (fnR rb) mb 4 knD → ∃ v, (Instr.lookup 84 (.map (some mb)) (.string TT) true).run Tryz.prog W = .ok (.tuple #[v, .bool false]) W) ∧ stepS ws sr = (sr, ⟨1, plT ws 0, 3⟩)) := by
    by_cases hk1 : (ws.getD 0 tok0).tx = [114, 117, 108, 101]
    ·have hk := hk1
     exact .inl ⟨43, (ruleS ws (st0 1)).2, { sr with ru := sr.ru ++ [(ruleS ws (st0 1)).1] }, fun W h => (kn_look h TT HTS.out).1 (HTT.out.trans hk), fun W hW hM => rrule_any HC.out HGV.out (st0 1) sr rv zv lv Z W hW hM HBD.out.1, if_pos hk, .inl rfl⟩
    by_cases hk2 : (ws.getD 0 tok0).tx = [122, 111, 110, 101]
    ·have hk := hk2
     exact .inl ⟨44, (zoneS ws (st0 1)).2, { sr with zo := sr.zo ++ [(zoneS ws (st0 1)).1] }, fun W h => (kn_look h TT HTS.out).2.1 (HTT.out.trans hk), fun W hW hM => rzone_any HC.out HGV.out (st0 1) sr rv zv lv Z W hW hM HBD.out.2.1, (if_neg (by rw [hk]; decide)).trans (if_pos hk), .inr (.inl rfl)⟩
    by_cases hk3 : (ws.getD 0 tok0).tx = [108, 105, 110, 101]
    ·have hk := hk3
     cases hq : (sr.zo == [] || doneB (sr.zo.getLastD ⟨[], []⟩)) with
     | true => exact .inl ⟨45, failS ws 6 (st0 1), sr, fun W h => (kn_look h TT HTS.out).2.2.1 (HTT.out.trans hk), fun W hW hM => rline_no HC.out (st0 1) (Nat.le_refl _) sr rv zv lv Z W hW hM HBD.out.2.1 (fun i hi => Nat.le_of_lt (HBD.out.2.2.2 i hi)) hq, (if_neg (by rw [hk]; decide)).trans ((if_neg (by rw [hk]; decide)).trans ((if_pos hk).trans (if_pos hq))), .inr (.inr (.inl rfl))⟩
     | false => exact .inl ⟨45, (lineS ws (st0 1)).2, addLine sr (lineS ws (st0 1)).1, fun W h => (kn_look h TT HTS.out).2.2.1 (HTT.out.trans hk), fun W hW hM => rline_ok HC.out HGV.out (st0 1) sr rv zv lv Z W hW hM HBD.out.2.1 HBD.out.2.2.2 hq, (if_neg (by rw [hk]; decide)).trans ((if_neg (by rw [hk]; decide)).trans ((if_pos hk).trans (if_neg (by rw [hq]; decide)))), .inr (.inr (.inl rfl))⟩
    by_cases hk4 : (ws.getD 0 tok0).tx = [108, 105, 110, 107]
    ·have hk := hk4
     exact .inl ⟨46, (linkS ws (st0 1)).2, { sr with lk := sr.lk ++ [(linkS ws (st0 1)).1] }, fun W h => (kn_look h TT HTS.out).2.2.2.1 (HTT.out.trans hk), fun W hW hM => rlink_any HC.out HGV.out (st0 1) sr rv zv lv Z W hW hM HBD.out.2.2.1, (if_neg (by rw [hk]; decide)).trans ((if_neg (by rw [hk]; decide)).trans ((if_neg (by rw [hk]; decide)).trans (if_pos hk))), .inr (.inr (.inr rfl))⟩
    exact .inr ⟨fun W h => (kn_look h TT HTS.out).2.2.2.2 (by rw [HTT.out]; exact ⟨hk1, hk2, hk3, hk4⟩), (if_neg hk1).trans ((if_neg hk2).trans ((if_neg hk3).trans (if_neg hk4)))⟩
   rcases hcase with ⟨fnN, s1, S1, hlk, hca, hst, hfn⟩ | ⟨hlk, hst⟩
   ·have HLK := Lib.hid hlk
    have HCA := Lib.hid hca
    have HST := Lib.hid hst
    have HFN := Lib.hid hfn
    clear hlk hca hst hfn
    obtain ⟨s2, hs2⟩ : ∃ s2, (endS ws s1).2 = s2 := ⟨_, rfl⟩
    have HSE := Lib.hid hs2
    rw [hs2] at HST
    clear hs2
    obtain ⟨n2, p2, e2⟩ := s2
    obtain ⟨pa, pc⟩ := p2
    go_upto_region 13 with (first
  | (go_at_call 47; refine HWD.out.mono ?_; rintro e w5 ⟨rfl, hs5, hg5⟩; obtain ⟨W5, hW5⟩ : ∃ W, w5 = W := ⟨_, rfl⟩; rw [hW5] at hs5 hg5 ⊢; clear hW5; have HS5 := Lib.hid hs5; have HM5 := Lib.hid (HM4.out.grown HS4.out.blk hg5 (by decide) (by decide) (by decide) (by decide) (by decide)); have q5 := HLK.out W5 (map_grown HMP.out hg5 HNE.out); clear hs5 hg5)
  | (go_at_call 48; refine (rend_any HC.out s1 _ HS6.out).mono ?_; rintro e w7 ⟨rfl, hs7, hg7⟩; rw [HSE.out] at hs7; obtain ⟨W7, hW7⟩ : ∃ W, w7 = W := ⟨_, rfl⟩; rw [hW7] at hs7 hg7 ⊢; clear hW7; have HE7 := Lib.hid hs7; have HM7 := Lib.hid (HM6.out.grown HS6.out.blk hg7 (by decide) (by decide) (by decide) (by decide) (by decide)); have x2 : W7.cell? ⟨rb, 2, none⟩ = some (.int .i64 e2) := HE7.out.blk.cell (j := 2) rfl; clear hs7 hg7)
  | fail)
    go_cut [] from 61 to 63 (fun wx => Hid (RSat V rb (.slice (some ⟨wb, wo, none⟩) ws.length wc) ws s1 wx) ∧ ∃ r6 z6 l6 Z6, Hid (SrcM V.heap.size sb S1 r6 z6 l6 Z6 wx))
    case first =>
     rcases HFN.out with hf | hf | hf | hf
     all_goals (
      subst hf
      go_wp2_with (first
       | ((with_reducible show Calls _ _ _ _ _); refine (HCA.out _ HS5.out HM5.out).mono ?_; rintro e w6 ⟨rfl, hs6, hn6, r6, z6, l6, Z6, hM6⟩)
       | fail)
      go_meet
      exact ⟨hs6, _, _, _, _, hM6⟩)
    case rest =>
    obtain ⟨HS6, r6, z6, l6, Z6, HM6⟩ := hcut
    generalize wc = W6 at *
    cases he : (e2 != 0) with
    | true =>
     have HRE : Hid (parseM (bsO s) = (sr0, (pa, pc), e2)) := Lib.hid (HERR.out (pa, pc) e2 (by rw [HST.out]; exact if_neg (by simpa using he)))
     have g2 := he
     clear he
     go_upto_region 16 with (first
  | (go_at_call 47; refine HWD.out.mono ?_; rintro e w5 ⟨rfl, hs5, hg5⟩; obtain ⟨W5, hW5⟩ : ∃ W, w5 = W := ⟨_, rfl⟩; rw [hW5] at hs5 hg5 ⊢; clear hW5; have HS5 := Lib.hid hs5; have HM5 := Lib.hid (HM4.out.grown HS4.out.blk hg5 (by decide) (by decide) (by decide) (by decide) (by decide)); have q5 := HLK.out W5 (map_grown HMP.out hg5 HNE.out); clear hs5 hg5)
  | (go_at_call 48; refine (rend_any HC.out s1 _ HS6.out).mono ?_; rintro e w7 ⟨rfl, hs7, hg7⟩; rw [HSE.out] at hs7; obtain ⟨W7, hW7⟩ : ∃ W, w7 = W := ⟨_, rfl⟩; rw [hW7] at hs7 hg7 ⊢; clear hW7; have HE7 := Lib.hid hs7; have HM7 := Lib.hid (HM6.out.grown HS6.out.blk hg7 (by decide) (by decide) (by decide) (by decide) (by decide)); have x2 : W7.cell? ⟨rb, 2, none⟩ = some (.int .i64 e2) := HE7.out.blk.cell (j := 2) rfl; clear hs7 hg7)
  | fail)
     have x0 : W7.cell? ⟨rb, 0, none⟩ = some (.int .i64 pa) := HE7.out.blk.cell (j := 0) rfl
     have x1 : W7.cell? ⟨rb, 1, none⟩ = some (.int .i64 pc) := HE7.out.blk.cell (j := 1) rfl
     have y0 : W7.drew.cell? ⟨rb, 0, none⟩ = some (.int .i64 pa) := x0
     have y1 : W7.drew.cell? ⟨rb, 1, none⟩ = some (.int .i64 pc) := x1
     have y2 : W7.drew.cell? ⟨rb, 2, none⟩ = some (.int .i64 e2) := x2
     have hb2 := (HR2.out.below HE7.out.bel).cell (j := 0) rfl
     have hb3 := HRW.out W7 HE7.out.bel
     obtain ⟨⟨c20, c21, c22, f20, f21, f22⟩, c30, c31, f30, f31⟩ := hb3
     clear hb2
     have hz := res_w (HR2.out.below HE7.out.bel) (HR3.out.below HE7.out.bel) (keepBelow HVB.out HE7.out.bel) HBL.out.1 HBL.out.2.1 HBL.out.2.2 (.slice none 0 0) (.slice none 0 0) (.slice none 0 0) (pa) (pc)
     obtain ⟨Z', hZ⟩ : ∃ Z', (((((W7.setCell ⟨b2, 0, none⟩ (.slice none 0 0)).setCell ⟨b2, 1, none⟩ (.slice none 0 0)).setCell ⟨b2, 2, none⟩ (.slice none 0 0)).setCell ⟨b3, 0, none⟩ (.int .i64 (pa))).setCell ⟨b3, 1, none⟩ (.int .i64 (pc))) = Z' := ⟨_, rfl⟩
     rw [hZ] at hz
     have HBZ : Hid (Below w.heap.size w Z'.drew) := Lib.hid (hz.1.drew)
     have r0 : Z'.drew.cell? ⟨b2, 0, none⟩ = some (.slice none 0 0) := hz.2.1
     have r1 : Z'.drew.cell? ⟨b2, 1, none⟩ = some (.slice none 0 0) := hz.2.2.1
     have r2 : Z'.drew.cell? ⟨b2, 2, none⟩ = some (.slice none 0 0) := hz.2.2.2.1
     have r3 : Z'.drew.cell? ⟨b3, 0, none⟩ = some (.int .i64 (pa)) := hz.2.2.2.2.1
     have r4 : Z'.drew.cell? ⟨b3, 1, none⟩ = some (.int .i64 (pc)) := hz.2.2.2.2.2
     clear hz
     have hzk := ((((HE7.out.blk.far (j := 0) hrb2 (.slice none 0 0)).far (j := 1) hrb2 (.slice none 0 0)).far (j := 2) hrb2 (.slice none 0 0)).far (j := 0) hrb3 (.int .i64 (pa : Nat))).far (j := 1) hrb3 (.int .i64 (pc : Nat))
     rw [hZ] at hzk
     have v0 : Z'.drew.cell? ⟨rb, 0, none⟩ = some (.int .i64 pa) := hzk.cell (j := 0) rfl
     have v1 : Z'.drew.cell? ⟨rb, 1, none⟩ = some (.int .i64 pc) := hzk.cell (j := 1) rfl
     have v2 : Z'.drew.cell? ⟨rb, 2, none⟩ = some (.int .i64 e2) := hzk.cell (j := 2) rfl
     clear hzk
     go_region
     all_goals go_wp2_with fail
     all_goals refine bodyPost_ret (v := .tuple #[.agg #[.slice none 0 0, .slice none 0 0, .slice none 0 0], .agg #[.int .i64 (pa), .int .i64 (pc)], .int .i64 (e2)]) (by simp [results, Tryz.results12, go_sem, r0, r1, r2, r3, r4]) rfl ?_
     all_goals exact par_no HRE.out rfl rfl rfl HBZ.out
    | false =>
     have he2 : e2 = 0 := by simpa using he
     subst he2
     have HRD : Hid (readS (LL.drop (i + 1)) S1 = readS LL sr0) := Lib.hid (by
      rw [← HRI.out, HDR.out]
      show _ = match lineStep ws sr with | .inl s' => _ | .inr e => _
      rw [step_prog ws sr HC.out.ne, HST.out]
      rfl)
     have HLN2 : Hid (LnB (i + 1) S1) := Lib.hid (by have q := HLN.out.step (ws := ws) HWB.out.1; rw [HST.out] at q; exact q)
     clear he
     go_wp2_with (first
  | (go_at_call 47; refine HWD.out.mono ?_; rintro e w5 ⟨rfl, hs5, hg5⟩; obtain ⟨W5, hW5⟩ : ∃ W, w5 = W := ⟨_, rfl⟩; rw [hW5] at hs5 hg5 ⊢; clear hW5; have HS5 := Lib.hid hs5; have HM5 := Lib.hid (HM4.out.grown HS4.out.blk hg5 (by decide) (by decide) (by decide) (by decide) (by decide)); have q5 := HLK.out W5 (map_grown HMP.out hg5 HNE.out); clear hs5 hg5)
  | (go_at_call 48; refine (rend_any HC.out s1 _ HS6.out).mono ?_; rintro e w7 ⟨rfl, hs7, hg7⟩; rw [HSE.out] at hs7; obtain ⟨W7, hW7⟩ : ∃ W, w7 = W := ⟨_, rfl⟩; rw [hW7] at hs7 hg7 ⊢; clear hW7; have HE7 := Lib.hid hs7; have HM7 := Lib.hid (HM6.out.grown HS6.out.blk hg7 (by decide) (by decide) (by decide) (by decide) (by decide)); have x2 : W7.cell? ⟨rb, 2, none⟩ = some (.int .i64 0) := HE7.out.blk.cell (j := 2) rfl; clear hs7 hg7)
  | fail)
     go_roundw
     case rel => exact ⟨i + 1, S1, _, _, _, _, by go_num, by omega, HM7, HE7.out.bel, HLN2, HRD⟩
     case measure => simp [intOf]; omega
   ·have HLK := Lib.hid hlk
    have HRE : Hid (parseM (bsO s) = (sr0, (t.ln, t.co), 3)) := Lib.hid (HERR.out (t.ln, t.co) 3 (by rw [hst]; unfold plT; rw [HTE.out]; rfl))
    clear hlk hst
    go_upto_region 12 with (first
     | (go_at_call 47; refine HWD.out.mono ?_; rintro e w5 ⟨rfl, hs5, hg5⟩; obtain ⟨W5, hW5⟩ : ∃ W, w5 = W := ⟨_, rfl⟩; rw [hW5] at hs5 hg5 ⊢; clear hW5; have HS5 := Lib.hid hs5; obtain ⟨vv, q5⟩ := HLK.out W5 (map_grown HMP.out hg5 HNE.out); clear hs5 hg5)
     | fail)
    have t1 := keepCell HS5.out.bel HT12.out.1
    have t2 := keepCell HS5.out.bel HT12.out.2
    have y1 : W5.drew.cell? ⟨wb, wo + 1, none⟩ = some (.int .i64 t.ln) := t1
    have y2 : W5.drew.cell? ⟨wb, wo + 2, none⟩ = some (.int .i64 t.co) := t2
    have hb2 := (HR2.out.below HS5.out.bel).cell (j := 0) rfl
    have hb3 := HRW.out W5 HS5.out.bel
    obtain ⟨⟨c20, c21, c22, f20, f21, f22⟩, c30, c31, f30, f31⟩ := hb3
    clear hb2
    have hz := res_w (HR2.out.below HS5.out.bel) (HR3.out.below HS5.out.bel) (keepBelow HVB.out HS5.out.bel) HBL.out.1 HBL.out.2.1 HBL.out.2.2 (.slice none 0 0) (.slice none 0 0) (.slice none 0 0) (t.ln) (t.co)
    obtain ⟨Z', hZ⟩ : ∃ Z', (((((W5.setCell ⟨b2, 0, none⟩ (.slice none 0 0)).setCell ⟨b2, 1, none⟩ (.slice none 0 0)).setCell ⟨b2, 2, none⟩ (.slice none 0 0)).setCell ⟨b3, 0, none⟩ (.int .i64 (t.ln))).setCell ⟨b3, 1, none⟩ (.int .i64 (t.co))) = Z' := ⟨_, rfl⟩
    rw [hZ] at hz
    have HBZ : Hid (Below w.heap.size w Z'.drew) := Lib.hid (hz.1.drew)
    have r0 : Z'.drew.cell? ⟨b2, 0, none⟩ = some (.slice none 0 0) := hz.2.1
    have r1 : Z'.drew.cell? ⟨b2, 1, none⟩ = some (.slice none 0 0) := hz.2.2.1
    have r2 : Z'.drew.cell? ⟨b2, 2, none⟩ = some (.slice none 0 0) := hz.2.2.2.1
    have r3 : Z'.drew.cell? ⟨b3, 0, none⟩ = some (.int .i64 (t.ln)) := hz.2.2.2.2.1
    have r4 : Z'.drew.cell? ⟨b3, 1, none⟩ = some (.int .i64 (t.co)) := hz.2.2.2.2.2
    clear hz
    go_region
    all_goals go_wp2_with fail
    all_goals refine bodyPost_ret (v := .tuple #[.agg #[.slice none 0 0, .slice none 0 0, .slice none 0 0], .agg #[.int .i64 (t.ln), .int .i64 (t.co)], .int .i64 (3)]) (by simp [results, Tryz.results12, go_sem, r0, r1, r2, r3, r4]) rfl ?_
    all_goals exact par_no HRE.out rfl rfl rfl HBZ.out
  ·have hie : i = LL.length := by omega
   have HFN : Hid (readS LL sr0 = .inl sr) := Lib.hid (by rw [← HRI.out, List.drop_eq_nil_of_le (by omega)]; rfl)
   have HPM3 : Hid (parseM (bsO s) = if sr.zo.any (fun z => !doneB z) = true then (sr0, (0, 0), 4) else if (checkM sr).2 ≠ 0 then (sr0, (0, 0), (checkM sr).2) else (sr, (0, 0), 0)) := Lib.hid (by rw [HPM2.out, HFN.out])
   have hli : ¬(i : Int) < (LL.length : Int) := by omega
   have HLE : Hid (sr.ru.length ≤ 1000000 ∧ Z.length ≤ 1000000 ∧ sr.lk.length ≤ 1000000 ∧ ∀ j, j < Z.length → (Z.getD j zk0).1.li.length ≤ 1000000) := Lib.hid (by
    have h1 := HLN.out
    have h2 := HLB.out.2
    have h3 := congrArg List.length HSM.out.zs
    rw [List.length_map] at h3
    have := h1.ru
    have := h1.zo
    have := h1.lk
    refine ⟨by omega, by omega, by omega, fun j hj => ?_⟩
    have h4 := h1.li (Z.getD j zk0).1 (by rw [← HSM.out.zs]; exact List.mem_map_of_mem (getD_mem hj))
    omega)
   have HRS : Hid (RdSr wr rv zv lv sr Z) := Lib.hid (HSM.out.rd HLE.out.1 HLE.out.2.1 HLE.out.2.2.1 HLE.out.2.2.2)
   have HCP : Hid (CapV rv ∧ CapV zv ∧ CapV lv) := Lib.hid ⟨HSM.out.ru.cap, HSM.out.zo.cap, HSM.out.lk.cap⟩
   have HCK : Hid (∀ W, Below wr.heap.size wr W → Calls Tryz.prog 18 #[.agg #[rv, zv, lv]] W fun e w' => e = .returned (.tuple #[.string ⟨(checkM sr).1.toArray⟩, .int .i64 (checkM sr).2]) ∧ Below W.heap.size W w') := Lib.hid fun W hW => check_any rv zv lv sr Z W (HRS.out.below hW) HLN.out.sz (HGV.out.below (keepBelow HBr.out hW)) HCP.out.2.1 HCP.out.2.2
   have HCN : Hid (Calls Tryz.prog 49 #[zv, .func (.func 50) #[] #[]] wr fun e w' => e = .returned (.bool (sr.zo.any fun z => !doneB z)) ∧ Below wr.heap.size wr w') := Lib.hid (by
    have q := con_pz1 (fun z => !doneB z.1) zv Z wr HRS.out.zo (Lib.hid fun x hx W hW => by
     have hl := (HRS.out.zo.mem hx).below hW
     obtain ⟨⟨nm, li⟩, lv'⟩ := x
     obtain ⟨NM, rfl⟩ := bs_of nm
     exact pz1_any NM lv' li W hl)
    rw [← HSM.out.zs, List.any_map]
    exact q)
   obtain ⟨q, hq⟩ : ∃ q, (sr.zo.any fun z => !doneB z) = q := ⟨_, rfl⟩
   rw [hq] at HCN HPM3
   obtain ⟨ck, hck⟩ : ∃ ck, checkM sr = ck := ⟨_, rfl⟩
   rw [hck] at HCK HPM3
   clear hq hck hlt hie
   obtain ⟨nm, ce⟩ := ck
   obtain ⟨NM, rfl⟩ := bs_of nm
   have HCK2 : Hid (∀ W, Below wr.heap.size wr W → Calls Tryz.prog 18 #[.agg #[rv, zv, lv]] W fun e w' => e = .returned (.tuple #[.string NM, .int .i64 ce]) ∧ Below W.heap.size W w') := HCK
   clear HCK
   simp only at HPM3
   obtain ⟨ra, rc, rfl⟩ := HRS.out.ru.form
   obtain ⟨za, zc, rfl⟩ := HRS.out.zo.row.form
   obtain ⟨la, lc, rfl⟩ := HRS.out.lk.form
   have s0 := HSM.out.blk.cell (j := 0) rfl
   have s1 := HSM.out.blk.cell (j := 1) rfl
   have s2 := HSM.out.blk.cell (j := 2) rfl
   cases q with
   | true =>
    have HRE : Hid (parseM (bsO s) = (sr0, (0, 0), 4)) := Lib.hid (HPM3.out.trans (if_pos rfl))
    go_upto_region 19 with (first | (go_at_call 49; refine HCN.out.mono ?_; rintro e w5 ⟨rfl, hb5⟩; obtain ⟨W5, hW5⟩ : ∃ W, w5 = W := ⟨_, rfl⟩; rw [hW5] at hb5 ⊢; clear hW5; have HB5 := Lib.hid (keepBelow HBr.out hb5); clear hb5) | fail)
    have hb2 := (HR2.out.below HB5.out).cell (j := 0) rfl
    have hb3 := HRW.out W5 HB5.out
    obtain ⟨⟨c20, c21, c22, f20, f21, f22⟩, c30, c31, f30, f31⟩ := hb3
    clear hb2
    have hz := res_w (HR2.out.below HB5.out) (HR3.out.below HB5.out) (keepBelow HVB.out HB5.out) HBL.out.1 HBL.out.2.1 HBL.out.2.2 (.slice none 0 0) (.slice none 0 0) (.slice none 0 0) (0) (0)
    obtain ⟨Z', hZ⟩ : ∃ Z', (((((W5.setCell ⟨b2, 0, none⟩ (.slice none 0 0)).setCell ⟨b2, 1, none⟩ (.slice none 0 0)).setCell ⟨b2, 2, none⟩ (.slice none 0 0)).setCell ⟨b3, 0, none⟩ (.int .i64 (0))).setCell ⟨b3, 1, none⟩ (.int .i64 (0))) = Z' := ⟨_, rfl⟩
    rw [hZ] at hz
    have HBZ : Hid (Below w.heap.size w Z') := Lib.hid hz.1
    have r0 : Z'.cell? ⟨b2, 0, none⟩ = some (.slice none 0 0) := hz.2.1
    have r1 : Z'.cell? ⟨b2, 1, none⟩ = some (.slice none 0 0) := hz.2.2.1
    have r2 : Z'.cell? ⟨b2, 2, none⟩ = some (.slice none 0 0) := hz.2.2.2.1
    have r3 : Z'.cell? ⟨b3, 0, none⟩ = some (.int .i64 (0)) := hz.2.2.2.2.1
    have r4 : Z'.cell? ⟨b3, 1, none⟩ = some (.int .i64 (0)) := hz.2.2.2.2.2
    clear hz
    go_wp2_with fail
    all_goals refine bodyPost_ret (v := .tuple #[.agg #[.slice none 0 0, .slice none 0 0, .slice none 0 0], .agg #[.int .i64 (0), .int .i64 (0)], .int .i64 (4)]) (by simp [results, Tryz.results12, go_sem, r0, r1, r2, r3, r4]) rfl ?_
    all_goals exact par_no HRE.out rfl rfl rfl HBZ.out
   | false =>
    have HPM4 : Hid (parseM (bsO s) = if ce ≠ 0 then (sr0, (0, 0), ce) else (sr, (0, 0), 0)) := Lib.hid (HPM3.out.trans (if_neg (by simp)))
    go_upto_region 20 with (first | (go_at_call 49; refine HCN.out.mono ?_; rintro e w5 ⟨rfl, hb5⟩; obtain ⟨W5, hW5⟩ : ∃ W, w5 = W := ⟨_, rfl⟩; rw [hW5] at hb5 ⊢; clear hW5; have HB5 := Lib.hid hb5; have HS5 := Lib.hid (HSM.out.below hb5); clear hb5) | fail)
    have k0 := HS5.out.blk.cell (j := 0) rfl
    have k1 := HS5.out.blk.cell (j := 1) rfl
    have k2 := HS5.out.blk.cell (j := 2) rfl
    go_upto_region 21 with (first | (go_at_call 18; refine (HCK2.out _ HB5.out).mono ?_; rintro e w6 ⟨rfl, hb6⟩; obtain ⟨W6, hW6⟩ : ∃ W, w6 = W := ⟨_, rfl⟩; rw [hW6] at hb6 ⊢; clear hW6; have HB6 := Lib.hid (keepBelow (keepBelow HBr.out HB5.out) hb6); have HS6 := Lib.hid (HS5.out.below hb6); have HR6 := Lib.hid ((HRS.out.below HB5.out).below hb6); clear hb6) | fail)
    cases hce : (ce != 0) with
    | true =>
     have HRE : Hid (parseM (bsO s) = (sr0, (0, 0), ce)) := Lib.hid (HPM4.out.trans (if_pos (by simpa using hce)))
     have hb2 := (HR2.out.below HB6.out).cell (j := 0) rfl
     have hb3 := HRW.out W6 HB6.out
     obtain ⟨⟨c20, c21, c22, f20, f21, f22⟩, c30, c31, f30, f31⟩ := hb3
     clear hb2
     have hz := res_w (HR2.out.below HB6.out) (HR3.out.below HB6.out) (keepBelow HVB.out HB6.out) HBL.out.1 HBL.out.2.1 HBL.out.2.2 (.slice none 0 0) (.slice none 0 0) (.slice none 0 0) (0) (0)
     obtain ⟨Z', hZ⟩ : ∃ Z', (((((W6.setCell ⟨b2, 0, none⟩ (.slice none 0 0)).setCell ⟨b2, 1, none⟩ (.slice none 0 0)).setCell ⟨b2, 2, none⟩ (.slice none 0 0)).setCell ⟨b3, 0, none⟩ (.int .i64 (0))).setCell ⟨b3, 1, none⟩ (.int .i64 (0))) = Z' := ⟨_, rfl⟩
     rw [hZ] at hz
     have HBZ : Hid (Below w.heap.size w Z') := Lib.hid hz.1
     have r0 : Z'.cell? ⟨b2, 0, none⟩ = some (.slice none 0 0) := hz.2.1
     have r1 : Z'.cell? ⟨b2, 1, none⟩ = some (.slice none 0 0) := hz.2.2.1
     have r2 : Z'.cell? ⟨b2, 2, none⟩ = some (.slice none 0 0) := hz.2.2.2.1
     have r3 : Z'.cell? ⟨b3, 0, none⟩ = some (.int .i64 (0)) := hz.2.2.2.2.1
     have r4 : Z'.cell? ⟨b3, 1, none⟩ = some (.int .i64 (0)) := hz.2.2.2.2.2
     clear hz
     go_wp2_with fail
     all_goals refine bodyPost_ret (v := .tuple #[.agg #[.slice none 0 0, .slice none 0 0, .slice none 0 0], .agg #[.int .i64 (0), .int .i64 (0)], .int .i64 (ce)]) (by simp [results, Tryz.results12, go_sem, r0, r1, r2, r3, r4]) rfl ?_
     all_goals exact par_no HRE.out rfl rfl rfl HBZ.out
    | false =>
     obtain rfl : ce = 0 := by simpa using hce
     have HRE : Hid (parseM (bsO s) = (sr, (0, 0), 0)) := Lib.hid (HPM4.out.trans (if_neg (by simp)))
     have v0 := HS6.out.blk.cell (j := 0) rfl
     have v1 := HS6.out.blk.cell (j := 1) rfl
     have v2 := HS6.out.blk.cell (j := 2) rfl
     have hb2 := (HR2.out.below HB6.out).cell (j := 0) rfl
     have hb3 := HRW.out W6 HB6.out
     obtain ⟨⟨c20, c21, c22, f20, f21, f22⟩, c30, c31, f30, f31⟩ := hb3
     clear hb2
     have hz := res_w (HR2.out.below HB6.out) (HR3.out.below HB6.out) (keepBelow HVB.out HB6.out) HBL.out.1 HBL.out.2.1 HBL.out.2.2 (.slice ra sr.ru.length rc) (.slice za Z.length zc) (.slice la sr.lk.length lc) (0) (0)
     obtain ⟨Z', hZ⟩ : ∃ Z', (((((W6.setCell ⟨b2, 0, none⟩ (.slice ra sr.ru.length rc)).setCell ⟨b2, 1, none⟩ (.slice za Z.length zc)).setCell ⟨b2, 2, none⟩ (.slice la sr.lk.length lc)).setCell ⟨b3, 0, none⟩ (.int .i64 (0))).setCell ⟨b3, 1, none⟩ (.int .i64 (0))) = Z' := ⟨_, rfl⟩
     rw [hZ] at hz
     have HBZ : Hid (Below w.heap.size w Z') := Lib.hid hz.1
     have r0 : Z'.cell? ⟨b2, 0, none⟩ = some (.slice ra sr.ru.length rc) := hz.2.1
     have r1 : Z'.cell? ⟨b2, 1, none⟩ = some (.slice za Z.length zc) := hz.2.2.1
     have r2 : Z'.cell? ⟨b2, 2, none⟩ = some (.slice la sr.lk.length lc) := hz.2.2.2.1
     have r3 : Z'.cell? ⟨b3, 0, none⟩ = some (.int .i64 (0)) := hz.2.2.2.2.1
     have r4 : Z'.cell? ⟨b3, 1, none⟩ = some (.int .i64 (0)) := hz.2.2.2.2.2
     clear hz
     have HRZ : Hid (RdSr Z' (.slice ra sr.ru.length rc) (.slice za Z.length zc) (.slice la sr.lk.length lc) sr Z) := Lib.hid (by
      have hfar : ∀ g, V.heap.size ≤ g → Z'.heap[g]? = W6.heap[g]? := fun g hg => by
       have n2 : g ≠ b2 := by have := HR2.out.lt; omega
       have n3 : g ≠ b3 := by have := HR3.out.lt; omega
       rw [← hZ, set_far_heap _ _ _ _ n3, set_far_heap _ _ _ _ n3, set_far_heap _ _ _ _ n2, set_far_heap _ _ _ _ n2, set_far_heap _ _ _ _ n2]
      exact (HS6.out.keep (hfar sb HS6.out.lo) (fun g q => hfar g (World.ownsRow.lt HS6.out.ru g q).1) (fun g q => hfar g (World.ownsRow.lt HS6.out.zo g q).1) (fun g q => hfar g (World.ownsRow.lt HS6.out.lk g q).1) (fun j hj g q => hfar g (World.ownsRow.lt (HS6.out.li j hj) g q).1)).rd HLE.out.1 HLE.out.2.1 HLE.out.2.2.1 HLE.out.2.2.2)
     go_wp2_with fail
     all_goals refine bodyPost_ret (v := .tuple #[.agg #[.slice ra sr.ru.length rc, .slice za Z.length zc, .slice la sr.lk.length lc], .agg #[.int .i64 (0), .int .i64 (0)], .int .i64 (0)]) (by simp [results, Tryz.results12, go_sem, r0, r1, r2, r3, r4]) rfl ?_
     all_goals exact ⟨_, _, _, Z, by rw [HRE.out]; rfl, by rw [HRE.out]; exact HRZ.out, HCP.out.1, HCP.out.2.1, HCP.out.2.2, HBZ.out⟩
end Go.Proofs.YtlbglinpgjlbkaaGreatDoor
