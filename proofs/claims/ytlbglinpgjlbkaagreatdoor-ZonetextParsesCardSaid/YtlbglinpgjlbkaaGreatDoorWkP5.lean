import Derived.Test.YtlbglinpgjlbkaaGreatDoorWkP4
/- Zone texts: the reference's Parse, walked. Printed by gen_p5.py. -/
namespace Go.Proofs.YtlbglinpgjlbkaaGreatDoor
open Go.RowKit Wk


set_option maxRecDepth 100000 in
set_option maxHeartbeats 8000000 in
theorem parse19_any (s : ByteArray) (hs : s.size < 4294967281) (w : World) (hg : Glob w) :
  Calls Tryz.prog 13 #[.string s] w (ParP (bsO s) w) := by
 have HG := Lib.hid hg
 have HLB := Lib.hid (linesM_b (bsO s) (by rw [bs_len]; omega))
 have HLI : Hid (∀ w', Below w.heap.size w w' → Calls Tryz.prog 52 #[.string s] w' (LinP (bsO s) w')) := Lib.hid fun w' hb => lines18_any s w'
 have HTKS : Hid (∀ ws ∈ (linesM (bsO s)).1, ∀ t ∈ ws, t.tx ≠ []) := Lib.hid fun ws hw t ht => (((linesM_tok (bsO s)).1 ws hw t ht).1).1
 obtain ⟨r, hr⟩ : ∃ r, linesM (bsO s) = r := ⟨_, rfl⟩
 have HPM : Hid (parseM (bsO s) = (if r.2.2 ≠ 0 then (sr0, r.2.1, r.2.2) else match readS r.1 sr0 with
  | .inr e => (sr0, e.1, e.2)
  | .inl s => if s.zo.any (fun z => !doneB z) = true then (sr0, (0, 0), 4) else if (checkM s).2 ≠ 0 then (sr0, (0, 0), (checkM s).2) else (s, (0, 0), 0))) := Lib.hid (by rw [← hr]; rfl)
 unfold LinP at HLI
 rw [hr] at HLB HLI HTKS
 clear hr hg hs
 obtain ⟨LL, ⟨pl, pc⟩, er⟩ := r
 simp only at HLB HPM HTKS
 have HLI2 : Hid (∀ w', Below w.heap.size w w' → Calls Tryz.prog 52 #[.string s] w' fun e w'' => ∃ v, e = .returned (.tuple #[v, .agg #[.int .i64 pl, .int .i64 pc], .int .i64 er]) ∧ OwnLn w'' w'.heap.size v LL ∧ Below w'.heap.size w' w'') := HLI
 clear HLI
 go_enter Tryz.func13, Tryz.ntmps13
 go_upto_region 1 with fail
 obtain ⟨b2, hb2⟩ : ∃ b, w.heap.size = b := ⟨_, rfl⟩
 obtain ⟨b3, hb3⟩ : ∃ b, w.heap.size + 1 = b := ⟨_, rfl⟩
 obtain ⟨X, hX⟩ : ∃ X, (w.alloc (.cells #[.slice none 0 0, .slice none 0 0, .slice none 0 0] 27)).alloc (.cells #[.int .i64 0, .int .i64 0] 29) = X := ⟨_, rfl⟩
 have HBX : Hid (Below w.heap.size w X) := Lib.hid (by rw [← hX]; exact ((Below.refl _ w).alloc (Nat.le_refl _) _).alloc (by simp) _)
 have HX2 : Hid (Blk X b2 #[.slice none 0 0, .slice none 0 0, .slice none 0 0] 27) := Lib.hid (by rw [← hX, ← hb2]; exact (Blk.new w _ _).below ((Below.refl _ _).alloc (Nat.le_refl _) _))
 have HX3 : Hid (Blk X b3 #[.int .i64 0, .int .i64 0] 29) := Lib.hid (by
  rw [← hX, ← hb3]
  have q := Blk.new (w.alloc (.cells #[.slice none 0 0, .slice none 0 0, .slice none 0 0] 27)) #[.int .i64 0, .int .i64 0] 29
  simpa using q)
 have HBL : Hid (w.heap.size ≤ b2 ∧ w.heap.size ≤ b3 ∧ b2 ≠ b3) := Lib.hid (by omega)
 have HBS : Hid (b2 < X.heap.size ∧ b3 < X.heap.size) := Lib.hid ⟨HX2.out.lt, HX3.out.lt⟩
 have hn23 : b2 ≠ b3 := HBL.out.2.2
 have hn32 : b3 ≠ b2 := Ne.symm HBL.out.2.2
 try rw [hX]
 try rw [hb3]
 try rw [hb2]
 clear hX hb2 hb3
 go_upto_region 2 with (first | (go_at_call 52; refine (HLI2.out _ HBX.out).mono ?_; rintro e w1 ⟨v, rfl, ho, hb⟩; obtain ⟨V, hV⟩ : ∃ V, w1 = V := ⟨_, rfl⟩; rw [hV] at ho hb ⊢; clear hV; obtain ⟨ga, gc, rfl⟩ := ho.form; have HLL := Lib.hid ho; have HXV := Lib.hid hb; clear ho hb) | fail)
 have HR2 := Lib.hid (HX2.out.below HXV.out)
 have HR3 := Lib.hid (HX3.out.below HXV.out)
 have HVB : Hid (Below w.heap.size w V) := Lib.hid (keepBelow HBX.out HXV.out)
 have HRW : Hid (∀ W, Below V.heap.size V W → (W.cell? ⟨b2, 0, none⟩ = some (.slice none 0 0) ∧ W.cell? ⟨b2, 1, none⟩ = some (.slice none 0 0) ∧ W.cell? ⟨b2, 2, none⟩ = some (.slice none 0 0) ∧ W.frozen? ⟨b2, 0, none⟩ = false ∧ W.frozen? ⟨b2, 1, none⟩ = false ∧ W.frozen? ⟨b2, 2, none⟩ = false) ∧ W.cell? ⟨b3, 0, none⟩ = some (.int .i64 0) ∧ W.cell? ⟨b3, 1, none⟩ = some (.int .i64 0) ∧ W.frozen? ⟨b3, 0, none⟩ = false ∧ W.frozen? ⟨b3, 1, none⟩ = false) := Lib.hid fun W hb => res_at (HR2.out.below hb) (HR3.out.below hb)
 obtain ⟨b6, hb6⟩ : ∃ b, V.heap.size = b := ⟨_, rfl⟩
 obtain ⟨Y, hY⟩ : ∃ Y, V.alloc (.cells #[.int .i64 pl, .int .i64 pc] 29) = Y := ⟨_, rfl⟩
 have HBY : Hid (Below V.heap.size V Y) := Lib.hid (by rw [← hY]; exact (Below.refl _ _).alloc (Nat.le_refl _) _)
 have HY6 : Hid (Blk Y b6 #[.int .i64 pl, .int .i64 pc] 29) := Lib.hid (by rw [← hY, ← hb6]; exact Blk.new _ _ _)
 have hn62 : b6 ≠ b2 := by rw [← hb6]; exact Nat.ne_of_gt HR2.out.lt
 have hn63 : b6 ≠ b3 := by rw [← hb6]; exact Nat.ne_of_gt HR3.out.lt
 try rw [hY]
 try rw [hb6]
 clear hY hb6
 cases hr : (er != 0) with
 | true =>
  have HRE : Hid (parseM (bsO s) = (sr0, (pl, pc), er)) := Lib.hid (by rw [HPM.out]; exact if_pos (by simpa using hr))
  have p0 := HY6.out.cell (j := 0) rfl
  have p1 := HY6.out.cell (j := 1) rfl
  go_upto_region 3 with fail
  have y0 : Y.drew.cell? ⟨b6, 0, none⟩ = some (.int .i64 pl) := p0
  have y1 : Y.drew.cell? ⟨b6, 1, none⟩ = some (.int .i64 pc) := p1
  have hb2 := (HR2.out.below HBY.out).cell (j := 0) rfl
  have hb3 := HRW.out Y HBY.out
  obtain ⟨⟨c20, c21, c22, f20, f21, f22⟩, c30, c31, f30, f31⟩ := hb3
  clear hb2
  have hz := res_w (HR2.out.below HBY.out) (HR3.out.below HBY.out) (keepBelow HVB.out HBY.out) HBL.out.1 HBL.out.2.1 HBL.out.2.2 (.slice none 0 0) (.slice none 0 0) (.slice none 0 0) (pl) (pc)
  obtain ⟨Z', hZ⟩ : ∃ Z', (((((Y.setCell ⟨b2, 0, none⟩ (.slice none 0 0)).setCell ⟨b2, 1, none⟩ (.slice none 0 0)).setCell ⟨b2, 2, none⟩ (.slice none 0 0)).setCell ⟨b3, 0, none⟩ (.int .i64 (pl))).setCell ⟨b3, 1, none⟩ (.int .i64 (pc))) = Z' := ⟨_, rfl⟩
  rw [hZ] at hz
  have HBZ : Hid (Below w.heap.size w Z'.drew) := Lib.hid (hz.1.drew)
  have r0 : Z'.drew.cell? ⟨b2, 0, none⟩ = some (.slice none 0 0) := hz.2.1
  have r1 : Z'.drew.cell? ⟨b2, 1, none⟩ = some (.slice none 0 0) := hz.2.2.1
  have r2 : Z'.drew.cell? ⟨b2, 2, none⟩ = some (.slice none 0 0) := hz.2.2.2.1
  have r3 : Z'.drew.cell? ⟨b3, 0, none⟩ = some (.int .i64 (pl)) := hz.2.2.2.2.1
  have r4 : Z'.drew.cell? ⟨b3, 1, none⟩ = some (.int .i64 (pc)) := hz.2.2.2.2.2
  clear hz
  go_region
  all_goals go_wp2_with fail
  all_goals refine bodyPost_ret (v := .tuple #[.agg #[.slice none 0 0, .slice none 0 0, .slice none 0 0], .agg #[.int .i64 (pl), .int .i64 (pc)], .int .i64 (er)]) (by simp [results, Tryz.results13, go_sem, r0, r1, r2, r3, r4]) rfl ?_
  all_goals exact par_no HRE.out rfl rfl rfl HBZ.out
 | false =>
 obtain rfl : er = 0 := by simpa using hr
 have HPM2 : Hid (parseM (bsO s) = (match readS LL sr0 with
  | .inr e => (sr0, e.1, e.2)
  | .inl s => if s.zo.any (fun z => !doneB z) = true then (sr0, (0, 0), 4) else if (checkM s).2 ≠ 0 then (sr0, (0, 0), (checkM s).2) else (s, (0, 0), 0))) := Lib.hid (by rw [HPM.out]; exact if_neg (by simp))
 clear HPM hr HX2 HX3 HLI2
 go_upto_region 5 with fail
 obtain ⟨sb, hsb⟩ : ∃ b, Y.heap.size = b := ⟨_, rfl⟩
 obtain ⟨W0, hW0⟩ : ∃ W, Y.alloc (.cells #[.slice none 0 0, .slice none 0 0, .slice none 0 0] 27) = W := ⟨_, rfl⟩
 have HSM0 : Hid (SrcM V.heap.size sb sr0 (.slice none 0 0) (.slice none 0 0) (.slice none 0 0) [] W0) := Lib.hid (by rw [← hW0, ← hsb]; exact SrcM.start (Blk.new _ _ _) HBY.out.size)
 have HBW0 : Hid (Below V.heap.size V W0) := Lib.hid (by rw [← hW0]; exact HBY.out.alloc HBY.out.size _)
 try rw [hW0]
 try rw [hsb]
 clear hW0 hsb
 have HTK : Hid (∀ ws ∈ LL, ∀ t ∈ ws, t.tx ≠ []) := Lib.hid fun ws hw t ht => (HTKS.out ws hw t ht)
 have hLL : (LL.length : Int) ≤ 65537 := by have := HLB.out.2; omega
 have HGV : Hid (Glob V) := Lib.hid (HG.out.below HVB.out)
 go_wp2_with fail
 go_loopw [9, 10, 11, 12, 13] (fun u9 _ _ _ _ wr => ∃ (i : Nat) (sr : SrT) (rv zv lv : Value) (Z : List ZkT), u9 = .int .i64 i ∧ i ≤ LL.length ∧ Hid (SrcM V.heap.size sb sr rv zv lv Z wr) ∧ Hid (Below V.heap.size V wr) ∧ Hid (LnB i sr) ∧ Hid (readS (LL.drop i) sr = readS LL sr0)) (fun u _ _ _ _ _ => LL.length - (intOf u).toNat)
 case atStart => exact ⟨0, sr0, _, _, _, _, rfl, Nat.zero_le _, HSM0.out, HBW0.out, LnB.start, rfl⟩
 case round =>
  obtain ⟨i, sr, rv, zv, lv, Z, rfl, hi, HSM, HBr, HLN, HRI⟩ := hrel
  by_cases hlt : i < LL.length
  ·have hmem : LL.getD i [] ∈ LL := getD_mem hlt
   have HWB := Lib.hid (HLB.out.1 _ hmem)
   have HWN : Hid (∀ t ∈ LL.getD i [], t.tx ≠ []) := Lib.hid fun t ht => (HTK.out _ hmem t ht)
   obtain ⟨g, gc2, wv, hv, hcell, hrd, hlo⟩ := HLL.out.at (d := tok0) flT_len hlt HWB.out.2.2
   obtain rfl : ga = some ⟨g, 0, none⟩ := by injection hv
   have HDR : Hid (LL.drop i = LL.getD i [] :: LL.drop (i + 1)) := Lib.hid (by rw [List.drop_eq_getElem_cons hlt, List.getD_eq_getElem?_getD, List.getElem?_eq_getElem hlt]; rfl)
   obtain ⟨ws, hws⟩ : ∃ ws, LL.getD i [] = ws := ⟨_, rfl⟩
   rw [hws] at hrd HWB HDR HWN
   obtain ⟨wb, wo, wc, rfl, -, -, -⟩ := RdTk.at hrd (k := 0) (by have := HWB.out.2.1; omega)
   have hq : wr.cell? ⟨g, i, none⟩ = some (.slice (some ⟨wb, wo, none⟩) ws.length wc) := keepCell HBr.out hcell
   have hlt2 : (i : Int) < (LL.length : Int) := by omega
   have hwl : (0 : Int) < (ws.length : Int) := by have := HWB.out.2.1; omega
   have HRC : Hid (∀ rb, V.heap.size ≤ rb → RCtx V rb (.slice (some ⟨wb, wo, none⟩) ws.length wc) ws) := Lib.hid fun rb hrb => ⟨hrd, hrb, HWB.out.2.1, HWB.out.1, by have := HWB.out.2.2; omega⟩
   clear hmem hv hcell hrd hws hlo
   go_upto_region 9 with fail
   obtain ⟨rb, hrb⟩ : ∃ b, wr.heap.size = b := ⟨_, rfl⟩
   obtain ⟨W1, hW1⟩ : ∃ W, wr.alloc (.cells #[(.slice (some ⟨wb, wo, none⟩) ws.length wc), .int .i64 0, .int .i64 0, .int .i64 0, .int .i64 0] 96) = W := ⟨_, rfl⟩
   have HB1 : Hid (Below wr.heap.size wr W1) := Lib.hid (by rw [← hW1]; exact (Below.refl _ _).alloc (Nat.le_refl _) _)
   have HK1 : Hid (Blk W1 rb #[(.slice (some ⟨wb, wo, none⟩) ws.length wc), .int .i64 0, .int .i64 0, .int .i64 0, .int .i64 0] 96) := Lib.hid (by rw [← hW1, ← hrb]; exact Blk.new _ _ _)
   have HC : Hid (RCtx V rb (.slice (some ⟨wb, wo, none⟩) ws.length wc) ws) := Lib.hid (HRC.out rb (by rw [← hrb]; exact HBr.out.size))
   have hrb2 : rb ≠ b2 := by have := HBr.out.size; have := HR2.out.lt; omega
   have hrb3 : rb ≠ b3 := by have := HBr.out.size; have := HR3.out.lt; omega
   try rw [hW1]
   try rw [hrb]
   clear hW1 hrb HRC
   have HS1 : Hid (RTat V rb (.slice (some ⟨wb, wo, none⟩) ws.length wc) ws (st0 0) W1) := Lib.hid ⟨HK1.out, keepBelow HBr.out HB1.out, Nat.zero_le _⟩
   have HM1 := Lib.hid (HSM.out.below HB1.out)
   obtain ⟨t, ht⟩ : ∃ t, ws.getD 0 tok0 = t := ⟨_, rfl⟩
   have HTE := Lib.hid ht
   obtain ⟨tx, ln, co⟩ := t
   obtain ⟨TT, rfl⟩ := bs_of tx
   have HNX : Hid (Calls Tryz.prog 53 #[.pointer (some ⟨rb, 0, none⟩)] W1 fun e w' => e = .returned (.agg #[.string TT, .int .i64 ln, .int .i64 co]) ∧ RTat V rb (.slice (some ⟨wb, wo, none⟩) ws.length wc) ws (st0 1) w' ∧ W1.grownBy w' (some rb)) := Lib.hid (by
    have q := nextR_any HC.out (st0 0) W1 HS1.out
    rw [next_first HC.out.ne, ht] at q
    exact q)
   clear ht
   have HBD : Hid (sr.ru.length < 1000000 ∧ Z.length < 1000000 ∧ sr.lk.length < 1000000 ∧ ∀ i, i < Z.length → (Z.getD i zk0).1.li.length < 1000000) := Lib.hid (by
    have h1 := HLN.out
    have h2 := HLB.out.2
    have h3 := congrArg List.length HSM.out.zs
    rw [List.length_map] at h3
    have := h1.ru
    have := h1.zo
    have := h1.lk
    refine ⟨by omega, by omega, by omega, fun j hj => ?_⟩
    have h4 := h1.li (Z.getD j zk0).1 (by rw [← HSM.out.zs]; exact List.mem_map_of_mem (getD_mem hj))
    omega)
   have HERR : Hid (∀ (p : Nat × Nat) (e : Int), ((if (stepT ws sr).2.e = 0 then .inl (stepT ws sr).1 else .inr ((stepT ws sr).2.p, (stepT ws sr).2.e) : SrT ⊕ ((Nat × Nat) × Int)) = .inr (p, e)) → parseM (bsO s) = (sr0, p, e)) := Lib.hid fun p e hpe => by
    have q : readS LL sr0 = .inr (p, e) := by
     rw [← HRI.out, HDR.out]
     show (match lineStep ws sr with | .inl s' => _ | .inr e => _) = _
     rw [step_ref ws sr HC.out.ne HWN.out, hpe]
    rw [HPM2.out, q]
   go_upto_region 10 with (first | (go_at_call 53; refine HNX.out.mono ?_; rintro e w2 ⟨rfl, hs2, hg2⟩; obtain ⟨W2, hW2⟩ : ∃ W, w2 = W := ⟨_, rfl⟩; rw [hW2] at hs2 hg2 ⊢; clear hW2; have HS2 := Lib.hid hs2; have HM2 := Lib.hid (HM1.out.grown HS1.out.blk hg2 (by decide) (by decide) (by decide) (by decide) (by decide)); clear hs2 hg2) | fail)
   obtain ⟨b11, hb11⟩ : ∃ b, W2.heap.size = b := ⟨_, rfl⟩
   obtain ⟨W4, hW4⟩ : ∃ W, W2.alloc (.cells #[.string TT, .int .i64 ln, .int .i64 co] 88) = W := ⟨_, rfl⟩
   have HB4 : Hid (Below W2.heap.size W2 W4) := Lib.hid (by rw [← hW4]; exact (Below.refl _ _).alloc (Nat.le_refl _) _)
   have HF4 : Hid (Blk W4 b11 #[.string TT, .int .i64 ln, .int .i64 co] 88) := Lib.hid (by rw [← hW4, ← hb11]; exact Blk.new _ _ _)
   have h112 : b11 ≠ b2 := by have := HS2.out.bel.size; have := HR2.out.lt; omega
   have h113 : b11 ≠ b3 := by have := HS2.out.bel.size; have := HR3.out.lt; omega
   try rw [hW4]
   try rw [hb11]
   clear hW4 hb11
   have HS4 := Lib.hid (HS2.out.below HB4.out)
   have HM4 := Lib.hid (HM2.out.below HB4.out)
   clear HS1 HM1 HNX HS2 HM2 HK1 HB1 HB4
   have tt0 : W4.cell? ⟨b11, 0, none⟩ = some (.string TT) := HF4.out.cell (j := 0) rfl
   go_upto_block 2 with fail
   obtain ⟨ra, rc, rfl⟩ := HM4.out.ru.form
   obtain ⟨za, zc, rfl⟩ := HM4.out.zo.form
   obtain ⟨la, lc, rfl⟩ := HM4.out.lk.form
   go_cut [12, 13] from 44 to 121 (fun _ _ wx => ∃ (S1 : SrT) (n2 pa pc : Nat) (e2 : Int) (r6 z6 l6 : Value) (Z6 : List ZkT), Hid (stepT ws sr = (S1, ⟨n2, (pa, pc), e2⟩)) ∧ Hid (RTat V rb (.slice (some ⟨wb, wo, none⟩) ws.length wc) ws ⟨n2, (pa, pc), e2⟩ wx) ∧ Hid (SrcM V.heap.size sb S1 r6 z6 l6 Z6 wx))
   case first =>
    by_cases hk_rule : bsO TT = [114, 117, 108, 101]
    ·have hk := hk_rule
     have g_rule : (TT.toList == [114, 117, 108, 101]) = true := by rw [dash_eq]; rw [hk]; rfl
     clear hk_rule
     obtain ⟨⟨⟨nm, fr, to_, mo, ⟨k, v, d⟩, at_, ck, sv, le⟩, s1⟩, h1⟩ : ∃ r, ruleT ws (st0 1) = r := ⟨_, rfl⟩
     obtain ⟨n1, ⟨pa, pc1⟩, e1⟩ := s1
     obtain ⟨NM, rfl⟩ := bs_of nm
     obtain ⟨LE, rfl⟩ := bs_of le
     have HST : Hid (stepT ws sr = ({ sr with ru := sr.ru ++ [(⟨bsO NM, fr, to_, mo, ⟨k, v, d⟩, at_, ck, sv, bsO LE⟩ : RuT)] }, ⟨n1, (pa, pc1), e1⟩)) := Lib.hid (by
      unfold stepT
      rw [HTE.out, if_pos hk, h1])
     have HRU : Hid (∀ W, RTat V rb (.slice (some ⟨wb, wo, none⟩) ws.length wc) ws (st0 1) W → Calls Tryz.prog 54 #[.pointer (some ⟨rb, 0, none⟩)] W fun e w' => e = .returned (.agg #[.string NM, .int .i64 fr, .int .i64 to_, .int .i64 mo, .int .i64 k, .int .i64 v, .int .i64 d, .int .i64 at_, .int .i64 ck, .int .i64 sv, .string LE]) ∧ RTat V rb (.slice (some ⟨wb, wo, none⟩) ws.length wc) ws ⟨n1, (pa, pc1), e1⟩ w' ∧ W.grownBy w' (some rb)) := Lib.hid fun W hW => by
      have q := ruleR_any HC.out (st0 1) W hW
      rw [h1] at q
      exact q
     have HONE : Hid (∀ u ∈ flRu (⟨bsO NM, fr, to_, mo, ⟨k, v, d⟩, at_, ck, sv, bsO LE⟩ : RuT), u.oneCell' = true) := Lib.hid (by intro u hu; simp [flRu] at hu; rcases hu with rfl | rfl | rfl | rfl | rfl | rfl | rfl | rfl | rfl | rfl | rfl <;> rfl)
     clear h1 hk
     have hd : Below W4.heap.size W4 W4.drew := (Below.refl _ _).drew
     have HSD := Lib.hid (HS4.out.below hd)
     have HMD := Lib.hid (HM4.out.below hd)
     clear hd
     have y1 : W4.drew.cell? ⟨sb, 0, none⟩ = some (.slice ra sr.ru.length rc) := HMD.out.blk.cell (j := 0) rfl
     have hrl := HBD.out.1
     go_upto_region 13 with fail
     go_region_law (first
       | (go_simp; go_at_call 54; refine (HRU.out _ HSD.out).mono ?_; rintro e wC ⟨rfl, hs1, hg1⟩; have HSC := Lib.hid hs1; have HMC := Lib.hid (HMD.out.grown HSD.out.blk hg1 (by decide) (by decide) (by decide) (by decide) (by decide)); have c1 : wC.cell? ⟨sb, 0, none⟩ = some (.slice ra sr.ru.length rc) := HMC.out.blk.cell (j := 0) rfl; have c2 : ∀ O, (wC.alloc O).cell? ⟨sb, 0, none⟩ = some (.slice ra sr.ru.length rc) := fun O => keepCell ((Below.refl _ _).alloc (Nat.le_refl _) _) c1; clear hs1 hg1)
       | (refine step_app_G (z := (⟨bsO NM, fr, to_, mo, ⟨k, v, d⟩, at_, ck, sv, bsO LE⟩ : RuT)) (w0 := V) (B := V.heap.size) flRu_len (by decide) Tryz.underlying23 Tryz.infoRu rfl (by decide) rfl (.tmp 50) (.tmp 53) rfl rfl HMC.out.ru (Nat.le_refl _) HSC.out.bel.size HSC.out.bel HONE.out rfl (by simp) hrl (by simp [flRu]) ?_; intro v1 w3 o1 b1 k1 z1; obtain ⟨pv, qv, hv0⟩ := o1.form; have hv : v1 = .slice pv (sr.ru.length + 1) qv := (by simpa using hv0); subst hv; clear hv0; have HB3 := Lib.hid (HMC.out.blk.same (k1 sb HMC.out.blk.lt fun q => HMC.out.ru.apart HMC.out.blk (by decide) q rfl)); have d0 := HB3.out.cell (j := 0) rfl; have d1 := HB3.out.frz 0; have HFIN := Lib.hid (And.intro (HMC.out.addR o1 k1) (HSC.out.turn (sb := sb) (j := 0) (v1 := .slice pv (sr.ru.length + 1) qv) b1 k1 (fun q => HMC.out.ru.apart HSC.out.blk (by decide) q rfl) (sb_ne HSC.out HMC.out) HMC.out.lo)); clear o1 b1 k1 z1))
     all_goals go_wp2_with fail
     all_goals go_meet
     all_goals exact ⟨_, n1, pa, pc1, e1, _, _, _, _, HST, HFIN.out.2, HFIN.out.1⟩
    by_cases hk_zone : bsO TT = [122, 111, 110, 101]
    ·have hk := hk_zone
     have g_rule : (TT.toList == [114, 117, 108, 101]) = false := by rw [dash_eq]; simpa using hk_rule
     have g_zone : (TT.toList == [122, 111, 110, 101]) = true := by rw [dash_eq]; rw [hk]; rfl
     clear hk_zone
     obtain ⟨⟨nm, s1⟩, h1⟩ : ∃ r, nameT ws (st0 1) = r := ⟨_, rfl⟩
     obtain ⟨s2, h2⟩ : ∃ s2, (endT ws s1).2 = s2 := ⟨_, rfl⟩
     obtain ⟨n1, ⟨pa, pc1⟩, e1⟩ := s2
     obtain ⟨NM, rfl⟩ := bs_of nm
     have HST : Hid (stepT ws sr = ({ sr with zo := sr.zo ++ [⟨bsO NM, []⟩] }, ⟨n1, (pa, pc1), e1⟩)) := Lib.hid (by
      unfold stepT
      rw [HTE.out, if_neg hk_rule, if_pos hk]
      have e : zoneT ws (st0 1) = (⟨bsO NM, []⟩, ⟨n1, (pa, pc1), e1⟩) := by
       unfold zoneT SM.bind
       rw [h1]
       show ((⟨bsO NM, []⟩ : ZoT), (endT ws s1).2) = _
       rw [h2]
      rw [e])
     have HNA : Hid (∀ W, RTat V rb (.slice (some ⟨wb, wo, none⟩) ws.length wc) ws (st0 1) W → Calls Tryz.prog 55 #[.pointer (some ⟨rb, 0, none⟩)] W fun e w' => e = .returned (.string NM) ∧ RTat V rb (.slice (some ⟨wb, wo, none⟩) ws.length wc) ws s1 w' ∧ W.grownBy w' (some rb)) := Lib.hid fun W hW => by
      have q := nameR_any HC.out (st0 1) W hW
      rw [h1] at q
      exact q
     have HEN : Hid (∀ W, RTat V rb (.slice (some ⟨wb, wo, none⟩) ws.length wc) ws s1 W → Calls Tryz.prog 56 #[.pointer (some ⟨rb, 0, none⟩)] W fun e w' => e = .returned (.tuple #[]) ∧ RTat V rb (.slice (some ⟨wb, wo, none⟩) ws.length wc) ws ⟨n1, (pa, pc1), e1⟩ w' ∧ W.grownBy w' (some rb)) := Lib.hid fun W hW => by
      have q := endR_any HC.out s1 W hW
      rw [h2] at q
      exact q
     have HONE : Hid (∀ u ∈ flZk ((⟨bsO NM, []⟩, nilV) : ZkT), u.oneCell' = true) := Lib.hid (by intro u hu; simp [flZk, nilV] at hu; rcases hu with rfl | rfl <;> rfl)
     clear h1 h2 hk
     have hd : Below W4.heap.size W4 W4.drew := (Below.refl _ _).drew
     have HSD := Lib.hid (HS4.out.below hd)
     have HMD := Lib.hid (HM4.out.below hd)
     clear hd
     have y1 : W4.drew.cell? ⟨sb, 1, none⟩ = some (.slice za Z.length zc) := HMD.out.blk.cell (j := 1) rfl
     have hrl := HBD.out.2.1
     go_upto_region 15 with fail
     go_cut [] from 58 to 66 (fun wx => Hid (RTat V rb (.slice (some ⟨wb, wo, none⟩) ws.length wc) ws s1 wx) ∧ ∃ r6 z6 l6 Z6, Hid (SrcM V.heap.size sb { sr with zo := sr.zo ++ [⟨bsO NM, []⟩] } r6 z6 l6 Z6 wx))
     case first =>
      go_region_law (first
       | (go_simp; go_at_call 55; refine (HNA.out _ HSD.out).mono ?_; rintro e wC ⟨rfl, hs1, hg1⟩; have HSC := Lib.hid hs1; have HMC := Lib.hid (HMD.out.grown HSD.out.blk hg1 (by decide) (by decide) (by decide) (by decide) (by decide)); have c1 : wC.cell? ⟨sb, 1, none⟩ = some (.slice za Z.length zc) := HMC.out.blk.cell (j := 1) rfl; have c2 : ∀ O, (wC.alloc O).cell? ⟨sb, 1, none⟩ = some (.slice za Z.length zc) := fun O => keepCell ((Below.refl _ _).alloc (Nat.le_refl _) _) c1; clear hs1 hg1)
       | (refine step_app_G (z := ((⟨bsO NM, []⟩, nilV) : ZkT)) (w0 := V) (B := V.heap.size) flZk_len (by decide) Tryz.underlying24 Tryz.infoZo rfl (by decide) rfl (.tmp 59) (.tmp 63) rfl rfl HMC.out.zo (Nat.le_refl _) HSC.out.bel.size HSC.out.bel HONE.out rfl (by simp) hrl (by simp [flZk, nilV]) ?_; intro v1 w3 o1 b1 k1 z1; obtain ⟨pv, qv, hv0⟩ := o1.form; have hv : v1 = .slice pv (Z.length + 1) qv := (by simpa using hv0); subst hv; clear hv0; have HB3 := Lib.hid (HMC.out.blk.same (k1 sb HMC.out.blk.lt fun q => HMC.out.zo.apart HMC.out.blk (by decide) q rfl)); have d0 := HB3.out.cell (j := 1) rfl; have d1 := HB3.out.frz 1; have HFIN := Lib.hid (And.intro (HMC.out.addZ o1 k1) (HSC.out.turn (sb := sb) (j := 1) (v1 := .slice pv (Z.length + 1) qv) b1 k1 (fun q => HMC.out.zo.apart HSC.out.blk (by decide) q rfl) (sb_ne HSC.out HMC.out) HMC.out.lo)); clear o1 b1 k1 z1))
      all_goals go_wp2_with fail
      all_goals go_meet
      all_goals exact ⟨HFIN.out.2, _, _, _, _, HFIN.out.1⟩
     case rest =>
     obtain ⟨HS6, r6, z6, l6, Z6, HM6⟩ := hcut
     generalize wc = W6 at *
     go_wp2_with (first | (go_at_call 56; refine (HEN.out _ HS6.out).mono ?_; rintro e w7 ⟨rfl, hs7, hg7⟩) | fail)
     go_meet
     exact ⟨_, n1, pa, pc1, e1, _, _, _, _, HST, hs7, HM6.out.grown HS6.out.blk hg7 (by decide) (by decide) (by decide) (by decide) (by decide)⟩
    by_cases hk_line : bsO TT = [108, 105, 110, 101]
    ·have hk := hk_line
     have g_rule : (TT.toList == [114, 117, 108, 101]) = false := by rw [dash_eq]; simpa using hk_rule
     have g_zone : (TT.toList == [122, 111, 110, 101]) = false := by rw [dash_eq]; simpa using hk_zone
     have g_link : (TT.toList == [108, 105, 110, 107]) = false := by rw [dash_eq]; rw [hk]; rfl
     have g_line : (TT.toList == [108, 105, 110, 101]) = true := by rw [dash_eq]; rw [hk]; rfl
     clear hk_line
     have HQ0 : Hid ((sr.zo == [] || doneB (sr.zo.getLastD ⟨[], []⟩)) = true → parseM (bsO s) = (sr0, (ln, co), 6)) := Lib.hid fun hq => HERR.out (ln, co) 6 (by
      unfold stepT
      rw [HTE.out, if_neg hk_rule, if_neg hk_zone, if_pos hk, if_pos hq]
      show (if (6 : Int) = 0 then _ else _) = _
      rw [if_neg (by decide)]
      unfold plT
      rw [HTE.out])
     rcases Nat.eq_zero_or_pos Z.length with h0 | h0
     ·have hz0 : sr.zo = [] := List.eq_nil_of_length_eq_zero (by rw [← HM4.out.zs, List.length_map]; exact h0)
      have HRE : Hid (parseM (bsO s) = (sr0, (ln, co), 6)) := Lib.hid (HQ0.out (by rw [hz0]; rfl))
      have y1 : W4.cell? ⟨sb, 1, none⟩ = some (.slice za Z.length zc) := HM4.out.blk.cell (j := 1) rfl
      rw [h0] at y1
      clear hz0 h0 hk hk_rule hk_zone
      go_upto_region 25 with fail
      have HFW := Lib.hid (HF4.out)
      have kk1 := HFW.out.cell (j := 1) rfl
      have kk2 := HFW.out.cell (j := 2) rfl
      have k1 : W4.drew.cell? ⟨b11, 1, none⟩ = some (.int .i64 ln) := HFW.out.cell (j := 1) rfl
      have k2 : W4.drew.cell? ⟨b11, 2, none⟩ = some (.int .i64 co) := HFW.out.cell (j := 2) rfl
      have hb2 := (HR2.out.below HS4.out.bel).cell (j := 0) rfl
      have hb3 := HRW.out W4 HS4.out.bel
      obtain ⟨⟨c20, c21, c22, f20, f21, f22⟩, c30, c31, f30, f31⟩ := hb3
      clear hb2
      have hz := res_w (HR2.out.below HS4.out.bel) (HR3.out.below HS4.out.bel) (keepBelow HVB.out HS4.out.bel) HBL.out.1 HBL.out.2.1 HBL.out.2.2 (.slice none 0 0) (.slice none 0 0) (.slice none 0 0) (ln) (co)
      obtain ⟨Z', hZ⟩ : ∃ Z', (((((W4.setCell ⟨b2, 0, none⟩ (.slice none 0 0)).setCell ⟨b2, 1, none⟩ (.slice none 0 0)).setCell ⟨b2, 2, none⟩ (.slice none 0 0)).setCell ⟨b3, 0, none⟩ (.int .i64 (ln))).setCell ⟨b3, 1, none⟩ (.int .i64 (co))) = Z' := ⟨_, rfl⟩
      rw [hZ] at hz
      have HBZ : Hid (Below w.heap.size w Z'.drew) := Lib.hid (hz.1.drew)
      have r0 : Z'.drew.cell? ⟨b2, 0, none⟩ = some (.slice none 0 0) := hz.2.1
      have r1 : Z'.drew.cell? ⟨b2, 1, none⟩ = some (.slice none 0 0) := hz.2.2.1
      have r2 : Z'.drew.cell? ⟨b2, 2, none⟩ = some (.slice none 0 0) := hz.2.2.2.1
      have r3 : Z'.drew.cell? ⟨b3, 0, none⟩ = some (.int .i64 (ln)) := hz.2.2.2.2.1
      have r4 : Z'.drew.cell? ⟨b3, 1, none⟩ = some (.int .i64 (co)) := hz.2.2.2.2.2
      clear hz
      have hzk := ((((HFW.out.far (j := 0) h112 (.slice none 0 0)).far (j := 1) h112 (.slice none 0 0)).far (j := 2) h112 (.slice none 0 0)).far (j := 0) h113 (.int .i64 (ln : Nat))).far (j := 1) h113 (.int .i64 (co : Nat))
      rw [hZ] at hzk
      have v1 : Z'.drew.cell? ⟨b11, 1, none⟩ = some (.int .i64 ln) := hzk.cell (j := 1) rfl
      have v2 : Z'.drew.cell? ⟨b11, 2, none⟩ = some (.int .i64 co) := hzk.cell (j := 2) rfl
      clear hzk
      go_region
      all_goals go_wp2_with fail
      all_goals refine bodyPost_ret (v := .tuple #[.agg #[.slice none 0 0, .slice none 0 0, .slice none 0 0], .agg #[.int .i64 (ln), .int .i64 (co)], .int .i64 (6)]) (by simp [results, Tryz.results13, go_sem, r0, r1, r2, r3, r4]) rfl ?_
      all_goals exact par_no HRE.out rfl rfl rfl HBZ.out
     ·obtain ⟨m, hm1⟩ : ∃ m, Z.length = m + 1 := ⟨Z.length - 1, by omega⟩
      obtain ⟨g1, zc2, ez, -, -⟩ := HM4.out.zo.pos h0
      rw [hm1] at ez
      obtain ⟨rfl, rfl⟩ : za = some ⟨g1, 0, none⟩ ∧ zc = zc2 := by
       injection ez with q1 q2 q3
       exact ⟨q1, q3⟩
      have hzo := HM4.out.zo
      have q0 := (hzo.cell flZk_len zk0 (i := m) (j := 0) (u := .string ⟨(Z.getD m zk0).1.nm.toArray⟩) (by omega) (by decide) rfl).1
      have q1 := (hzo.cell flZk_len zk0 (i := m) (j := 1) (u := (Z.getD m zk0).2) (by omega) (by decide) rfl).1
      have HZL := Lib.hid (zlast_at HM4.out.zs hm1)
      have hlr := (HM4.out.li m (by omega)).rd flLi_len (d := li0) (Nat.le_of_lt (HBD.out.2.2.2 m (by omega)))
      have hll := HBD.out.2.2.2 m (by omega)
      obtain ⟨z, hz⟩ : ∃ z, Z.getD m zk0 = z := ⟨_, rfl⟩
      have HZE := Lib.hid hz
      rw [hz] at q0 q1 HZL hlr hll
      obtain ⟨⟨nm, li⟩, lv2⟩ := z
      obtain ⟨NM, rfl⟩ := bs_of nm
      simp only at hlr hll HZL
      have HOP : Hid (Calls Tryz.prog 57 #[.agg #[.string NM, lv2]] W4 fun e w' => e = .returned (.bool (!doneB ⟨bsO NM, li⟩)) ∧ Below W4.heap.size W4 w') := Lib.hid (open_any NM lv2 li W4 hlr)
      obtain ⟨a2, n2, rfl⟩ := hlr.form
      have e0 : W4.cell? ⟨g1, m * 2, none⟩ = some (.string NM) := q0
      have e1 : W4.cell? ⟨g1, m * 2 + 1, none⟩ = some (.slice a2 li.length n2) := q1
      have y1 : W4.cell? ⟨sb, 1, none⟩ = some (.slice (some ⟨g1, 0, none⟩) Z.length zc) := HM4.out.blk.cell (j := 1) rfl
      rw [hm1] at y1
      have hmi : (((m + 1 : Nat) : Int) - 1) = (m : Int) := by omega
      have hmb : (m : Int) ≤ 1000000 := by have := HBD.out.2.1; omega
      have hm0 : (((m + 1 : Nat) : Int) == 0) = false := by simp; omega
      have hlm : (m : Int) < (m : Int) + 1 := by omega
      have HM1 := Lib.hid hm1
      have HLL2 := Lib.hid hll
      obtain ⟨qd, hqd⟩ : ∃ q, doneB ⟨bsO NM, li⟩ = q := ⟨_, rfl⟩
      rw [hqd] at HOP HZL
      clear hlr hll hz hm1 h0 q0 q1 hzo hqd
      cases qd with
      | true =>
       have HRE : Hid (parseM (bsO s) = (sr0, (ln, co), 6)) := Lib.hid (HQ0.out HZL.out)
       clear hk hk_rule hk_zone
       go_upto_region 25 with (first | (go_at_call 57; refine HOP.out.mono ?_; rintro e w5 ⟨rfl, hb5⟩; obtain ⟨W5, hW5⟩ : ∃ W, w5 = W := ⟨_, rfl⟩; rw [hW5] at hb5 ⊢; clear hW5; have HB5 := Lib.hid (keepBelow HS4.out.bel hb5); have HF5 := Lib.hid (HF4.out.below hb5); clear hb5) | fail)
       have HFW := Lib.hid (HF5.out)
       have kk1 := HFW.out.cell (j := 1) rfl
       have kk2 := HFW.out.cell (j := 2) rfl
       have k1 : W5.drew.cell? ⟨b11, 1, none⟩ = some (.int .i64 ln) := HFW.out.cell (j := 1) rfl
       have k2 : W5.drew.cell? ⟨b11, 2, none⟩ = some (.int .i64 co) := HFW.out.cell (j := 2) rfl
       have hb2 := (HR2.out.below HB5.out).cell (j := 0) rfl
       have hb3 := HRW.out W5 HB5.out
       obtain ⟨⟨c20, c21, c22, f20, f21, f22⟩, c30, c31, f30, f31⟩ := hb3
       clear hb2
       have hz := res_w (HR2.out.below HB5.out) (HR3.out.below HB5.out) (keepBelow HVB.out HB5.out) HBL.out.1 HBL.out.2.1 HBL.out.2.2 (.slice none 0 0) (.slice none 0 0) (.slice none 0 0) (ln) (co)
       obtain ⟨Z', hZ⟩ : ∃ Z', (((((W5.setCell ⟨b2, 0, none⟩ (.slice none 0 0)).setCell ⟨b2, 1, none⟩ (.slice none 0 0)).setCell ⟨b2, 2, none⟩ (.slice none 0 0)).setCell ⟨b3, 0, none⟩ (.int .i64 (ln))).setCell ⟨b3, 1, none⟩ (.int .i64 (co))) = Z' := ⟨_, rfl⟩
       rw [hZ] at hz
       have HBZ : Hid (Below w.heap.size w Z'.drew) := Lib.hid (hz.1.drew)
       have r0 : Z'.drew.cell? ⟨b2, 0, none⟩ = some (.slice none 0 0) := hz.2.1
       have r1 : Z'.drew.cell? ⟨b2, 1, none⟩ = some (.slice none 0 0) := hz.2.2.1
       have r2 : Z'.drew.cell? ⟨b2, 2, none⟩ = some (.slice none 0 0) := hz.2.2.2.1
       have r3 : Z'.drew.cell? ⟨b3, 0, none⟩ = some (.int .i64 (ln)) := hz.2.2.2.2.1
       have r4 : Z'.drew.cell? ⟨b3, 1, none⟩ = some (.int .i64 (co)) := hz.2.2.2.2.2
       clear hz
       have hzk := ((((HFW.out.far (j := 0) h112 (.slice none 0 0)).far (j := 1) h112 (.slice none 0 0)).far (j := 2) h112 (.slice none 0 0)).far (j := 0) h113 (.int .i64 (ln : Nat))).far (j := 1) h113 (.int .i64 (co : Nat))
       rw [hZ] at hzk
       have v1 : Z'.drew.cell? ⟨b11, 1, none⟩ = some (.int .i64 ln) := hzk.cell (j := 1) rfl
       have v2 : Z'.drew.cell? ⟨b11, 2, none⟩ = some (.int .i64 co) := hzk.cell (j := 2) rfl
       clear hzk
       go_region
       all_goals go_wp2_with fail
       all_goals refine bodyPost_ret (v := .tuple #[.agg #[.slice none 0 0, .slice none 0 0, .slice none 0 0], .agg #[.int .i64 (ln), .int .i64 (co)], .int .i64 (6)]) (by simp [results, Tryz.results13, go_sem, r0, r1, r2, r3, r4]) rfl ?_
       all_goals exact par_no HRE.out rfl rfl rfl HBZ.out
      | false =>
      obtain ⟨⟨⟨of_, ru, sv, fm, la, ⟨yr, mo, ⟨k, v, d⟩, at_, ck⟩⟩, s1⟩, h1⟩ : ∃ r, lineT ws (st0 1) = r := ⟨_, rfl⟩
      obtain ⟨n1, ⟨pa, pc1⟩, er1⟩ := s1
      obtain ⟨RU, rfl⟩ := bs_of ru
      obtain ⟨FM, rfl⟩ := bs_of fm
      have HST : Hid (stepT ws sr = (addLine sr (⟨of_, bsO RU, sv, bsO FM, la, ⟨yr, mo, ⟨k, v, d⟩, at_, ck⟩⟩ : LiT), ⟨n1, (pa, pc1), er1⟩)) := Lib.hid (by
       unfold stepT
       rw [HTE.out, if_neg hk_rule, if_neg hk_zone, if_pos hk, if_neg (by rw [HZL.out]; simp), h1])
      have HLI : Hid (∀ W, RTat V rb (.slice (some ⟨wb, wo, none⟩) ws.length wc) ws (st0 1) W → Calls Tryz.prog 58 #[.pointer (some ⟨rb, 0, none⟩)] W fun e w' => e = .returned (.agg #[.int .i64 of_, .string RU, .int .i64 sv, .string FM, .bool la, .int .i64 yr, .int .i64 mo, .int .i64 k, .int .i64 v, .int .i64 d, .int .i64 at_, .int .i64 ck]) ∧ RTat V rb (.slice (some ⟨wb, wo, none⟩) ws.length wc) ws ⟨n1, (pa, pc1), er1⟩ w' ∧ W.grownBy w' (some rb)) := Lib.hid fun W hW => by
       have q := lineR_any HC.out HWN.out (st0 1) W hW
       rw [h1] at q
       exact q
      clear h1 hk hk_rule hk_zone HQ0
      go_upto_region 26 with (first | (go_at_call 57; refine HOP.out.mono ?_; rintro e w5 ⟨rfl, hb5⟩; obtain ⟨W5, hW5⟩ : ∃ W, w5 = W := ⟨_, rfl⟩; rw [hW5] at hb5 ⊢; clear hW5; have HS5 := Lib.hid (HS4.out.below hb5); have HM5 := Lib.hid (HM4.out.below hb5); clear hb5) | fail)
      have hd : Below W5.heap.size W5 W5.drew := (Below.refl _ _).drew
      have HSD := Lib.hid (HS5.out.below hd)
      have HMD := Lib.hid (HM5.out.below hd)
      rw [HM1.out] at HMD
      have hcd := (HM5.out.zo.below hd).cell flZk_len zk0 (i := m) (j := 1) (u := .slice a2 li.length n2) (by have := HM1.out; omega) (by decide) (by rw [HZE.out]; rfl)
      have l0 : W5.drew.cell? ⟨g1, m * 2 + 1, none⟩ = some (.slice a2 li.length n2) := hcd.1
      have HS0 : Hid (W5.drew.cell? ⟨sb, 1, none⟩ = some (.slice (some ⟨g1, 0, none⟩) (m + 1) zc)) := Lib.hid (HMD.out.blk.cell (j := 1) rfl)
      have HO : Hid (∀ u ∈ flLi (⟨of_, bsO RU, sv, bsO FM, la, ⟨yr, mo, ⟨k, v, d⟩, at_, ck⟩⟩ : LiT), u.oneCell' = true) := Lib.hid (by intro u hu; simp [flLi] at hu; rcases hu with rfl | rfl | rfl | rfl | rfl | rfl | rfl | rfl | rfl | rfl | rfl | rfl <;> rfl)
      have hm00 : (0 : Int) ≤ (m : Int) := Int.natCast_nonneg _
      have hwm : IntKind.i64.wrap (m : Int) = (m : Int) := by rw [IntKind.wrap_i64]; omega
      clear hd hcd e0 e1 y1 hm0
      refine wp_region_held_drew (S := fun w' => w'.cell? ⟨sb, 1, none⟩ = some (.slice (some ⟨g1, 0, none⟩) (m + 1) zc)) (by kernel_rfl) ?_ (fun hHeld => ?_)
      ·exact HS0.out
      refine wpAnyH_take (i := 0) (v := ?v7) rfl (by kernel_rfl) (by kernel_rfl) (by kernel_rfl) (fun _ _ _ h => h) (Or.inl ⟨by rfl, ?hy7⟩) (by assumption) ?rest7
      case hy7 =>
       intro w hSw
       try dsimp only at hSw
       go_simp
       try with_reducible rfl
      case rest7 =>
      refine wpAnyH_take (i := 1) (v := ?v8) rfl (by kernel_rfl) (by kernel_rfl) (by kernel_rfl) (fun _ _ _ h => h) (Or.inl ⟨by rfl, ?hy8⟩) (by assumption) ?rest8
      case hy8 =>
       intro w hSw
       try dsimp only at hSw
       go_simp
       try with_reducible rfl
      case rest8 =>
      refine wpAnyH_take (i := 2) (v := ?v9) rfl (by kernel_rfl) (by kernel_rfl) (by kernel_rfl) (fun _ _ _ h => h) (Or.inl ⟨by rfl, ?hy9⟩) (by assumption) ?rest9
      case hy9 =>
       intro w hSw
       try dsimp only at hSw
       go_simp
       try with_reducible rfl
      case rest9 =>
      refine wpAnyH_take (i := 3) (v := ?v10) rfl (by kernel_rfl) (by kernel_rfl) (by kernel_rfl) (fun _ _ _ h => h) (Or.inl ⟨by rfl, ?hy10⟩) (by assumption) ?rest10
      case hy10 =>
       intro w hSw
       try dsimp only at hSw
       go_simp
       try with_reducible rfl
      case rest10 =>
      refine wpAnyH_take (i := 4) (v := ?v11) rfl (by kernel_rfl) (by kernel_rfl) (by kernel_rfl) (fun _ _ _ h => h) (Or.inl ⟨by rfl, ?hy11⟩) (by assumption) ?rest11
      case hy11 =>
       intro w hSw
       try dsimp only at hSw
       go_simp
       try with_reducible rfl
      case rest11 =>
      refine wpAnyH_take (i := 5) (v := ?v12) rfl (by kernel_rfl) (by kernel_rfl) (by kernel_rfl) (fun _ _ _ h => h) (Or.inl ⟨by rfl, ?hy12⟩) (by assumption) ?rest12
      case hy12 =>
       intro w hSw
       try dsimp only at hSw
       go_simp
       try with_reducible rfl
      case rest12 =>
      refine wpAnyH_take (i := 6) (v := ?v13) rfl (by kernel_rfl) (by kernel_rfl) (by kernel_rfl) (fun _ _ _ h => h) (Or.inl ⟨by rfl, ?hy13⟩) (by assumption) ?rest13
      case hy13 =>
       intro w hSw
       try dsimp only at hSw
       go_simp
       try with_reducible rfl
      case rest13 =>
      refine wpAnyH_take (i := 7) (v := ?v14) rfl (by kernel_rfl) (by kernel_rfl) (by kernel_rfl) (fun _ _ _ h => h) (Or.inl ⟨by rfl, ?hy14⟩) (by assumption) ?rest14
      case hy14 =>
       intro w hSw
       try dsimp only at hSw
       go_simp
       try with_reducible rfl
      case rest14 =>
      refine wpAnyH_take (i := 8) (v := ?v15) rfl (by kernel_rfl) (by kernel_rfl) (by kernel_rfl) (fun _ _ _ h => h) (Or.inl ⟨by rfl, ?hy15⟩) (by assumption) ?rest15
      case hy15 =>
       intro w hSw
       try dsimp only at hSw
       go_simp
       try with_reducible rfl
      case rest15 =>
      refine wpAnyH_take (i := 9) (v := ?v16) rfl (by kernel_rfl) (by kernel_rfl) (by kernel_rfl) (fun _ _ _ h => h) (Or.inl ⟨by rfl, ?hy16⟩) (by assumption) ?rest16
      case hy16 =>
       intro w hSw
       try dsimp only at hSw
       go_simp
       try with_reducible rfl
      case rest16 =>
      refine wpAnyH_take (i := 11) (v := ?v17) rfl (by kernel_rfl) (by kernel_rfl) (by kernel_rfl) (fun _ _ _ h => h) (Or.inl ⟨by rfl, ?hy17⟩) (by assumption) ?rest17
      case hy17 =>
       intro w hSw
       try dsimp only at hSw
       go_simp
       try with_reducible rfl
      case rest17 =>
      refine wpAnyH_ready (rs := [10, 12]) (by kernel_rfl) (by simp) ?_
      refine AllReadyH.cons rfl (fun K hK => ?_) ?_
      ·go_simp
       refine hK.out _ _ ?_ (fun hHeld => ?_)
       ·exact HS0.out
       clear hK K
       refine wpAnyH_ready (rs := [12]) (by kernel_rfl) (by simp) ?_
       refine AllReadyH.cons rfl (fun K hK => ?_) AllReadyH.nil
       go_simp
       go_at_call 58
       refine (HLI.out _ HSD.out).mono ?_
       rintro e wC ⟨rfl, hs1, hg1⟩
       have HSC := Lib.hid hs1
       have HMC := Lib.hid (HMD.out.grown HSD.out.blk hg1 (by decide) (by decide) (by decide) (by decide) (by decide))
       have HS1 : Hid (wC.cell? ⟨sb, 1, none⟩ = some (.slice (some ⟨g1, 0, none⟩) (m + 1) zc)) := Lib.hid (HMC.out.blk.cell (j := 1) rfl)
       have HSA : Hid (∀ O, (wC.alloc O).cell? ⟨sb, 1, none⟩ = some (.slice (some ⟨g1, 0, none⟩) (m + 1) zc)) := Lib.hid fun O => keepCell ((Below.refl _ _).alloc (Nat.le_refl _) _) HS1.out
       have hcc := (by have q := HMC.out.zo; rw [← HM1.out] at q; exact q : OwnG 45 2 flZk wC V.heap.size (.slice (some ⟨g1, 0, none⟩) Z.length zc) Z).cell flZk_len zk0 (i := m) (j := 1) (u := .slice a2 li.length n2) (by have := HM1.out; omega) (by decide) (by rw [HZE.out]; rfl)
       have l1 : wC.cell? ⟨g1, m * 2 + 1, none⟩ = some (.slice a2 li.length n2) := hcc.1
       have l2 : ∀ O, (wC.alloc O).cell? ⟨g1, m * 2 + 1, none⟩ = some (.slice a2 li.length n2) := fun O => keepCell ((Below.refl _ _).alloc (Nat.le_refl _) _) l1
       have HLo0 : Hid (OwnG 102 12 flLi wC V.heap.size (.slice a2 li.length n2) li) := Lib.hid (by have q := HMC.out.li m (by have := HM1.out; omega); rw [HZE.out] at q; exact q)
       have HLo := Lib.hid (own_top HLo0.out)
       have HTB := Lib.hid (topB_le HLo0.out HSC.out.bel.size)
       clear hs1 hg1 hcc
       refine hK.out _ _ ?_ (fun hHeld => ?_)
       ·exact HS1.out
       clear hK K
       refine wpAnyH_ready (rs := [13]) (by kernel_rfl) (by simp) ?_
       refine AllReadyH.cons rfl (fun K hK => ?_) AllReadyH.nil
       go_simp
       refine hK.out _ _ ?_ (fun hHeld => ?_)
       ·exact HSA.out _
       clear hK K
       refine wpAnyH_ready (rs := [14]) (by kernel_rfl) (by simp) ?_
       refine AllReadyH.cons rfl (fun K hK => ?_) AllReadyH.nil
       refine step_app_G (z := (⟨of_, bsO RU, sv, bsO FM, la, ⟨yr, mo, ⟨k, v, d⟩, at_, ck⟩⟩ : LiT)) (w0 := V) (B := topB (.slice a2 li.length n2) wC) flLi_len (by decide) Tryz.underlying43 Tryz.infoLi rfl (by decide) rfl (.tmp 114) (.tmp 117) rfl rfl HLo.out HTB.out.1 HTB.out.2 HSC.out.bel HO.out rfl (by simp) HLL2.out (by simp [flLi]) ?_
       intro v1 w3 o1 b1 k1 z1
       obtain ⟨pv, qv, hv0⟩ := o1.form
       have hv : v1 = .slice pv (li.length + 1) qv := (by simpa using hv0)
       subst hv
       clear hv0
       have HFIN := Lib.hid (lin_finT HM1.out HZE.out HSC.out HMC.out HLo0.out o1 b1 k1 HTB.out.1)
       have d0 := HFIN.out.2.2.1
       have d1 := HFIN.out.2.2.2
       have HS3 : Hid (w3.cell? ⟨sb, 1, none⟩ = some (.slice (some ⟨g1, 0, none⟩) (m + 1) zc)) := Lib.hid ((HMC.out.blk.same (k1 sb HMC.out.blk.lt fun q => HLo0.out.apart HMC.out.blk (by decide) q rfl)).cell (j := 1) rfl)
       have HFIN3 : Hid (∀ u, (w3.setCell ⟨g1, m * 2 + 1, none⟩ u).cell? ⟨sb, 1, none⟩ = some (.slice (some ⟨g1, 0, none⟩) (m + 1) zc)) := Lib.hid fun u => (Blk.same (HMC.out.blk.same (k1 sb HMC.out.blk.lt fun q => HLo0.out.apart HMC.out.blk (by decide) q rfl)) (set_far_heap _ _ _ _ (fun e => HMC.out.zo.apart HMC.out.blk (by decide) rfl e.symm))).cell (j := 1) rfl
       have HS4 : Hid (∀ u, (w3.setCell ⟨g1, m * 2 + 1, none⟩ u).cell? ⟨sb, 1, none⟩ = some (.slice (some ⟨g1, 0, none⟩) (m + 1) zc)) := Lib.hid fun u => HFIN3.out u
       clear o1 b1 k1 z1
       refine hK.out _ _ ?_ (fun hHeld => ?_)
       ·exact HS3.out
       clear hK K
       refine wpAnyH_take (i := 15) (v := ?v1) rfl (by kernel_rfl) (by kernel_rfl) (by kernel_rfl) (fun _ _ _ h => h) (Or.inl ⟨by rfl, ?hy1⟩) (by assumption) ?rest1
       case hy1 =>
        intro w hSw
        try dsimp only at hSw
        go_simp
        try with_reducible rfl
       case rest1 =>
       refine wpAnyH_take (i := 16) (v := ?v2) rfl (by kernel_rfl) (by kernel_rfl) (by kernel_rfl) (fun _ _ _ h => h) (Or.inl ⟨by rfl, ?hy2⟩) (by assumption) ?rest2
       case hy2 =>
        intro w hSw
        try dsimp only at hSw
        go_simp
        try with_reducible rfl
       case rest2 =>
       refine wpAnyH_ready (rs := [17]) (by kernel_rfl) (by simp) ?_
       refine AllReadyH.cons rfl (fun K hK => ?_) AllReadyH.nil
       go_simp
       refine hK.out _ _ ?_ (fun hHeld => ?_)
       ·exact HS4.out _
       clear hK K
       refine wpAnyH_done (by kernel_rfl) ?_ _
       go_wp2_with fail
       go_meet
       exact ⟨_, n1, pa, pc1, er1, _, _, _, _, HST, HFIN.out.2.1, HFIN.out.1⟩
      refine AllReadyH.cons rfl (fun K hK => ?_) ?_
      ·go_simp
       go_at_call 58
       refine (HLI.out _ HSD.out).mono ?_
       rintro e wC ⟨rfl, hs1, hg1⟩
       have HSC := Lib.hid hs1
       have HMC := Lib.hid (HMD.out.grown HSD.out.blk hg1 (by decide) (by decide) (by decide) (by decide) (by decide))
       have HS1 : Hid (wC.cell? ⟨sb, 1, none⟩ = some (.slice (some ⟨g1, 0, none⟩) (m + 1) zc)) := Lib.hid (HMC.out.blk.cell (j := 1) rfl)
       have HSA : Hid (∀ O, (wC.alloc O).cell? ⟨sb, 1, none⟩ = some (.slice (some ⟨g1, 0, none⟩) (m + 1) zc)) := Lib.hid fun O => keepCell ((Below.refl _ _).alloc (Nat.le_refl _) _) HS1.out
       have hcc := (by have q := HMC.out.zo; rw [← HM1.out] at q; exact q : OwnG 45 2 flZk wC V.heap.size (.slice (some ⟨g1, 0, none⟩) Z.length zc) Z).cell flZk_len zk0 (i := m) (j := 1) (u := .slice a2 li.length n2) (by have := HM1.out; omega) (by decide) (by rw [HZE.out]; rfl)
       have l1 : wC.cell? ⟨g1, m * 2 + 1, none⟩ = some (.slice a2 li.length n2) := hcc.1
       have l2 : ∀ O, (wC.alloc O).cell? ⟨g1, m * 2 + 1, none⟩ = some (.slice a2 li.length n2) := fun O => keepCell ((Below.refl _ _).alloc (Nat.le_refl _) _) l1
       have HLo0 : Hid (OwnG 102 12 flLi wC V.heap.size (.slice a2 li.length n2) li) := Lib.hid (by have q := HMC.out.li m (by have := HM1.out; omega); rw [HZE.out] at q; exact q)
       have HLo := Lib.hid (own_top HLo0.out)
       have HTB := Lib.hid (topB_le HLo0.out HSC.out.bel.size)
       clear hs1 hg1 hcc
       refine hK.out _ _ ?_ (fun hHeld => ?_)
       ·exact HS1.out
       clear hK K
       refine wpAnyH_ready (rs := [10, 13]) (by kernel_rfl) (by simp) ?_
       refine AllReadyH.cons rfl (fun K hK => ?_) ?_
       ·go_simp
        refine hK.out _ _ ?_ (fun hHeld => ?_)
        ·exact HS1.out
        clear hK K
        refine wpAnyH_ready (rs := [13]) (by kernel_rfl) (by simp) ?_
        refine AllReadyH.cons rfl (fun K hK => ?_) AllReadyH.nil
        go_simp
        refine hK.out _ _ ?_ (fun hHeld => ?_)
        ·exact HSA.out _
        clear hK K
        refine wpAnyH_ready (rs := [14]) (by kernel_rfl) (by simp) ?_
        refine AllReadyH.cons rfl (fun K hK => ?_) AllReadyH.nil
        refine step_app_G (z := (⟨of_, bsO RU, sv, bsO FM, la, ⟨yr, mo, ⟨k, v, d⟩, at_, ck⟩⟩ : LiT)) (w0 := V) (B := topB (.slice a2 li.length n2) wC) flLi_len (by decide) Tryz.underlying43 Tryz.infoLi rfl (by decide) rfl (.tmp 114) (.tmp 117) rfl rfl HLo.out HTB.out.1 HTB.out.2 HSC.out.bel HO.out rfl (by simp) HLL2.out (by simp [flLi]) ?_
        intro v1 w3 o1 b1 k1 z1
        obtain ⟨pv, qv, hv0⟩ := o1.form
        have hv : v1 = .slice pv (li.length + 1) qv := (by simpa using hv0)
        subst hv
        clear hv0
        have HFIN := Lib.hid (lin_finT HM1.out HZE.out HSC.out HMC.out HLo0.out o1 b1 k1 HTB.out.1)
        have d0 := HFIN.out.2.2.1
        have d1 := HFIN.out.2.2.2
        have HS3 : Hid (w3.cell? ⟨sb, 1, none⟩ = some (.slice (some ⟨g1, 0, none⟩) (m + 1) zc)) := Lib.hid ((HMC.out.blk.same (k1 sb HMC.out.blk.lt fun q => HLo0.out.apart HMC.out.blk (by decide) q rfl)).cell (j := 1) rfl)
        have HFIN3 : Hid (∀ u, (w3.setCell ⟨g1, m * 2 + 1, none⟩ u).cell? ⟨sb, 1, none⟩ = some (.slice (some ⟨g1, 0, none⟩) (m + 1) zc)) := Lib.hid fun u => (Blk.same (HMC.out.blk.same (k1 sb HMC.out.blk.lt fun q => HLo0.out.apart HMC.out.blk (by decide) q rfl)) (set_far_heap _ _ _ _ (fun e => HMC.out.zo.apart HMC.out.blk (by decide) rfl e.symm))).cell (j := 1) rfl
        have HS4 : Hid (∀ u, (w3.setCell ⟨g1, m * 2 + 1, none⟩ u).cell? ⟨sb, 1, none⟩ = some (.slice (some ⟨g1, 0, none⟩) (m + 1) zc)) := Lib.hid fun u => HFIN3.out u
        clear o1 b1 k1 z1
        refine hK.out _ _ ?_ (fun hHeld => ?_)
        ·exact HS3.out
        clear hK K
        refine wpAnyH_take (i := 15) (v := ?v3) rfl (by kernel_rfl) (by kernel_rfl) (by kernel_rfl) (fun _ _ _ h => h) (Or.inl ⟨by rfl, ?hy3⟩) (by assumption) ?rest3
        case hy3 =>
         intro w hSw
         try dsimp only at hSw
         go_simp
         try with_reducible rfl
        case rest3 =>
        refine wpAnyH_take (i := 16) (v := ?v4) rfl (by kernel_rfl) (by kernel_rfl) (by kernel_rfl) (fun _ _ _ h => h) (Or.inl ⟨by rfl, ?hy4⟩) (by assumption) ?rest4
        case hy4 =>
         intro w hSw
         try dsimp only at hSw
         go_simp
         try with_reducible rfl
        case rest4 =>
        refine wpAnyH_ready (rs := [17]) (by kernel_rfl) (by simp) ?_
        refine AllReadyH.cons rfl (fun K hK => ?_) AllReadyH.nil
        go_simp
        refine hK.out _ _ ?_ (fun hHeld => ?_)
        ·exact HS4.out _
        clear hK K
        refine wpAnyH_done (by kernel_rfl) ?_ _
        go_wp2_with fail
        go_meet
        exact ⟨_, n1, pa, pc1, er1, _, _, _, _, HST, HFIN.out.2.1, HFIN.out.1⟩
       refine AllReadyH.cons rfl (fun K hK => ?_) ?_
       ·go_simp
        refine hK.out _ _ ?_ (fun hHeld => ?_)
        ·exact HSA.out _
        clear hK K
        refine wpAnyH_ready (rs := [10]) (by kernel_rfl) (by simp) ?_
        refine AllReadyH.cons rfl (fun K hK => ?_) AllReadyH.nil
        go_simp
        refine hK.out _ _ ?_ (fun hHeld => ?_)
        ·exact HSA.out _
        clear hK K
        refine wpAnyH_ready (rs := [14]) (by kernel_rfl) (by simp) ?_
        refine AllReadyH.cons rfl (fun K hK => ?_) AllReadyH.nil
        refine step_app_G (z := (⟨of_, bsO RU, sv, bsO FM, la, ⟨yr, mo, ⟨k, v, d⟩, at_, ck⟩⟩ : LiT)) (w0 := V) (B := topB (.slice a2 li.length n2) wC) flLi_len (by decide) Tryz.underlying43 Tryz.infoLi rfl (by decide) rfl (.tmp 114) (.tmp 117) rfl rfl HLo.out HTB.out.1 HTB.out.2 HSC.out.bel HO.out rfl (by simp) HLL2.out (by simp [flLi]) ?_
        intro v1 w3 o1 b1 k1 z1
        obtain ⟨pv, qv, hv0⟩ := o1.form
        have hv : v1 = .slice pv (li.length + 1) qv := (by simpa using hv0)
        subst hv
        clear hv0
        have HFIN := Lib.hid (lin_finT HM1.out HZE.out HSC.out HMC.out HLo0.out o1 b1 k1 HTB.out.1)
        have d0 := HFIN.out.2.2.1
        have d1 := HFIN.out.2.2.2
        have HS3 : Hid (w3.cell? ⟨sb, 1, none⟩ = some (.slice (some ⟨g1, 0, none⟩) (m + 1) zc)) := Lib.hid ((HMC.out.blk.same (k1 sb HMC.out.blk.lt fun q => HLo0.out.apart HMC.out.blk (by decide) q rfl)).cell (j := 1) rfl)
        have HFIN3 : Hid (∀ u, (w3.setCell ⟨g1, m * 2 + 1, none⟩ u).cell? ⟨sb, 1, none⟩ = some (.slice (some ⟨g1, 0, none⟩) (m + 1) zc)) := Lib.hid fun u => (Blk.same (HMC.out.blk.same (k1 sb HMC.out.blk.lt fun q => HLo0.out.apart HMC.out.blk (by decide) q rfl)) (set_far_heap _ _ _ _ (fun e => HMC.out.zo.apart HMC.out.blk (by decide) rfl e.symm))).cell (j := 1) rfl
        have HS4 : Hid (∀ u, (w3.setCell ⟨g1, m * 2 + 1, none⟩ u).cell? ⟨sb, 1, none⟩ = some (.slice (some ⟨g1, 0, none⟩) (m + 1) zc)) := Lib.hid fun u => HFIN3.out u
        clear o1 b1 k1 z1
        refine hK.out _ _ ?_ (fun hHeld => ?_)
        ·exact HS3.out
        clear hK K
        refine wpAnyH_take (i := 15) (v := ?v5) rfl (by kernel_rfl) (by kernel_rfl) (by kernel_rfl) (fun _ _ _ h => h) (Or.inl ⟨by rfl, ?hy5⟩) (by assumption) ?rest5
        case hy5 =>
         intro w hSw
         try dsimp only at hSw
         go_simp
         try with_reducible rfl
        case rest5 =>
        refine wpAnyH_take (i := 16) (v := ?v6) rfl (by kernel_rfl) (by kernel_rfl) (by kernel_rfl) (fun _ _ _ h => h) (Or.inl ⟨by rfl, ?hy6⟩) (by assumption) ?rest6
        case hy6 =>
         intro w hSw
         try dsimp only at hSw
         go_simp
         try with_reducible rfl
        case rest6 =>
        refine wpAnyH_ready (rs := [17]) (by kernel_rfl) (by simp) ?_
        refine AllReadyH.cons rfl (fun K hK => ?_) AllReadyH.nil
        go_simp
        refine hK.out _ _ ?_ (fun hHeld => ?_)
        ·exact HS4.out _
        clear hK K
        refine wpAnyH_done (by kernel_rfl) ?_ _
        go_wp2_with fail
        go_meet
        exact ⟨_, n1, pa, pc1, er1, _, _, _, _, HST, HFIN.out.2.1, HFIN.out.1⟩
       exact AllReadyH.nil
      exact AllReadyH.nil
    by_cases hk_link : bsO TT = [108, 105, 110, 107]
    ·have hk := hk_link
     have g_rule : (TT.toList == [114, 117, 108, 101]) = false := by rw [dash_eq]; simpa using hk_rule
     have g_zone : (TT.toList == [122, 111, 110, 101]) = false := by rw [dash_eq]; simpa using hk_zone
     have g_line : (TT.toList == [108, 105, 110, 101]) = false := by rw [dash_eq]; simpa using hk_line
     have g_link : (TT.toList == [108, 105, 110, 107]) = true := by rw [dash_eq]; rw [hk]; rfl
     clear hk_link
     obtain ⟨⟨nm, s1⟩, h1⟩ : ∃ r, nameT ws (st0 1) = r := ⟨_, rfl⟩
     obtain ⟨⟨n2', s2⟩, h2⟩ : ∃ r, nameT ws s1 = r := ⟨_, rfl⟩
     obtain ⟨s3, h3⟩ : ∃ s3, (endT ws s2).2 = s3 := ⟨_, rfl⟩
     obtain ⟨n1, ⟨pa, pc1⟩, e1⟩ := s3
     obtain ⟨NM, rfl⟩ := bs_of nm
     obtain ⟨N2, rfl⟩ := bs_of n2'
     have HST : Hid (stepT ws sr = ({ sr with lk := sr.lk ++ [(⟨bsO NM, bsO N2⟩ : LkT)] }, ⟨n1, (pa, pc1), e1⟩)) := Lib.hid (by
      unfold stepT
      rw [HTE.out, if_neg hk_rule, if_neg hk_zone, if_neg hk_line, if_pos hk]
      have e : linkT ws (st0 1) = (⟨bsO NM, bsO N2⟩, ⟨n1, (pa, pc1), e1⟩) := by
       unfold linkT SM.bind
       rw [h1]
       simp only
       rw [h2]
       show (((⟨bsO NM, bsO N2⟩ : LkT)), (endT ws s2).2) = _
       rw [h3]
      rw [e])
     have HNA : Hid (∀ W, RTat V rb (.slice (some ⟨wb, wo, none⟩) ws.length wc) ws (st0 1) W → Calls Tryz.prog 55 #[.pointer (some ⟨rb, 0, none⟩)] W fun e w' => e = .returned (.string NM) ∧ RTat V rb (.slice (some ⟨wb, wo, none⟩) ws.length wc) ws s1 w' ∧ W.grownBy w' (some rb)) := Lib.hid fun W hW => by
      have q := nameR_any HC.out (st0 1) W hW
      rw [h1] at q
      exact q
     have HNB : Hid (∀ W, RTat V rb (.slice (some ⟨wb, wo, none⟩) ws.length wc) ws s1 W → Calls Tryz.prog 55 #[.pointer (some ⟨rb, 0, none⟩)] W fun e w' => e = .returned (.string N2) ∧ RTat V rb (.slice (some ⟨wb, wo, none⟩) ws.length wc) ws s2 w' ∧ W.grownBy w' (some rb)) := Lib.hid fun W hW => by
      have q := nameR_any HC.out s1 W hW
      rw [h2] at q
      exact q
     have HEN : Hid (∀ W, RTat V rb (.slice (some ⟨wb, wo, none⟩) ws.length wc) ws s2 W → Calls Tryz.prog 56 #[.pointer (some ⟨rb, 0, none⟩)] W fun e w' => e = .returned (.tuple #[]) ∧ RTat V rb (.slice (some ⟨wb, wo, none⟩) ws.length wc) ws ⟨n1, (pa, pc1), e1⟩ w' ∧ W.grownBy w' (some rb)) := Lib.hid fun W hW => by
      have q := endR_any HC.out s2 W hW
      rw [h3] at q
      exact q
     clear h1 h2 h3 hk
     go_upto_region 19 with (first | (go_at_call 55; refine (HNA.out _ HS4.out).mono ?_; rintro e w5 ⟨rfl, hs5, hg5⟩; obtain ⟨W5, hW5⟩ : ∃ W, w5 = W := ⟨_, rfl⟩; rw [hW5] at hs5 hg5 ⊢; clear hW5; have HS5 := Lib.hid hs5; have HM5 := Lib.hid (HM4.out.grown HS4.out.blk hg5 (by decide) (by decide) (by decide) (by decide) (by decide)); clear hs5 hg5) | fail)
     obtain ⟨b12, hb12⟩ : ∃ b, W5.heap.size = b := ⟨_, rfl⟩
     obtain ⟨Y5, hY5⟩ : ∃ Y, W5.alloc (.cells #[.string NM, .string ⟨#[]⟩] 48) = Y := ⟨_, rfl⟩
     have HB5 : Hid (Below W5.heap.size W5 Y5) := Lib.hid (by rw [← hY5]; exact (Below.refl _ _).alloc (Nat.le_refl _) _)
     have HL5 : Hid (Blk Y5 b12 #[.string NM, .string ⟨#[]⟩] 48) := Lib.hid (by rw [← hY5, ← hb12]; exact Blk.new _ _ _)
     have HN5 : Hid (b12 ≠ rb ∧ b12 ≠ sb ∧ V.heap.size ≤ b12 ∧ (∀ g, ((Value.slice ra sr.ru.length rc).ownBlock = some g ∨ (Value.slice za Z.length zc).ownBlock = some g ∨ (Value.slice la sr.lk.length lc).ownBlock = some g ∨ ∃ j, j < Z.length ∧ (Z.getD j zk0).2.ownBlock = some g) → g ≠ b12)) := Lib.hid (by
      rw [← hb12]
      refine ⟨Nat.ne_of_gt HS5.out.blk.lt, Nat.ne_of_gt HM5.out.blk.lt, HS5.out.bel.size, ?_⟩
      rintro g (q | q | q | ⟨j, hj, q⟩)
      ·exact Nat.ne_of_lt (World.ownsRow.lt HM5.out.ru g q).2
      ·exact Nat.ne_of_lt (World.ownsRow.lt HM5.out.zo g q).2
      ·exact Nat.ne_of_lt (World.ownsRow.lt HM5.out.lk g q).2
      ·exact Nat.ne_of_lt (World.ownsRow.lt (HM5.out.li j hj) g q).2)
     have HS6 := Lib.hid (HS5.out.below HB5.out)
     have HM6 := Lib.hid (HM5.out.below HB5.out)
     try rw [hY5]
     try rw [hb12]
     clear hY5 hb12
     go_upto_region 20 with (first | (go_at_call 55; refine (HNB.out _ HS6.out).mono ?_; rintro e w7 ⟨rfl, hs7, hg7⟩; obtain ⟨W7, hW7⟩ : ∃ W, w7 = W := ⟨_, rfl⟩; rw [hW7] at hs7 hg7 ⊢; clear hW7; have HS7 := Lib.hid hs7; have HM7 := Lib.hid (HM6.out.grown HS6.out.blk hg7 (by decide) (by decide) (by decide) (by decide) (by decide)); have HL7 := Lib.hid (HL5.out.grown hg7 HN5.out.1); have x1 := HL7.out.cell (j := 1) rfl; have f1 := HL7.out.frz 1; clear hs7 hg7) | fail)
     obtain ⟨Y8, hY8⟩ : ∃ Y, W7.setCell ⟨b12, 1, none⟩ (.string N2) = Y := ⟨_, rfl⟩
     have HL8 : Hid (Blk Y8 b12 #[.string NM, .string N2] 48) := Lib.hid (by rw [← hY8]; exact HL7.out.set (j := 1) _)
     have HS8 : Hid (RTat V rb (.slice (some ⟨wb, wo, none⟩) ws.length wc) ws s2 Y8) := Lib.hid (by rw [← hY8]; exact HS7.out.other (grown_set _ _ _ _) HN5.out.1 HN5.out.2.2.1)
     have HM8 : Hid (SrcM V.heap.size sb sr (.slice ra sr.ru.length rc) (.slice za Z.length zc) (.slice la sr.lk.length lc) Z Y8) := Lib.hid (by
      rw [← hY8]
      exact HM7.out.keep (set_far_heap _ _ _ _ (Ne.symm HN5.out.2.1)) (fun g q => set_far_heap _ _ _ _ (HN5.out.2.2.2 g (.inl q))) (fun g q => set_far_heap _ _ _ _ (HN5.out.2.2.2 g (.inr (.inl q)))) (fun g q => set_far_heap _ _ _ _ (HN5.out.2.2.2 g (.inr (.inr (.inl q))))) (fun j hj g q => set_far_heap _ _ _ _ (HN5.out.2.2.2 g (.inr (.inr (.inr ⟨j, hj, q⟩))))))
     try rw [hY8]
     clear hY8 x1 f1
     have y2 : Y8.cell? ⟨sb, 2, none⟩ = some (.slice la sr.lk.length lc) := HM8.out.blk.cell (j := 2) rfl
     have k0 := HL8.out.cell (j := 0) rfl
     have k1' := HL8.out.cell (j := 1) rfl
     have hrl := HBD.out.2.2.1
     go_upto_region 21 with (at_builtin; refine wpList_app_G (z := (⟨bsO NM, bsO N2⟩ : LkT)) (w0 := V) (B := V.heap.size) flLk_len (by decide) Tryz.underlying25 Tryz.infoLk rfl (by decide) rfl (.tmp 77) (.tmp 79) rfl rfl HM8.out.lk (Nat.le_refl _) HS8.out.bel.size HS8.out.bel (by intro u hu; simp [flLk] at hu; rcases hu with rfl | rfl <;> rfl) rfl (by simp) hrl (by simp [flLk]) ?_; intro v1 w3 o1 b1 k1 gg1 z1; obtain ⟨pv, qv, hv0⟩ := o1.form; have hv : v1 = .slice pv (sr.lk.length + 1) qv := (by simpa using hv0); subst hv; clear hv0; have HB3 := Lib.hid (HM8.out.blk.same (k1 sb HM8.out.blk.lt fun q => HM8.out.lk.apart HM8.out.blk (by decide) q rfl)); have d0 := HB3.out.cell (j := 2) rfl; have d1 := HB3.out.frz 2; have HFIN := Lib.hid (And.intro (HM8.out.addL o1 k1) (HS8.out.turn (sb := sb) (j := 2) (v1 := .slice pv (sr.lk.length + 1) qv) b1 k1 (fun q => HM8.out.lk.apart HS8.out.blk (by decide) q rfl) (sb_ne HS8.out HM8.out) HM8.out.lo)); clear o1 b1 k1 gg1 z1)
     obtain ⟨W9, hW9⟩ : ∃ W, w3.setCell ⟨sb, 2, none⟩ (.slice pv (sr.lk.length + 1) qv) = W := ⟨_, rfl⟩
     rw [hW9] at HFIN
     try rw [hW9]
     clear hW9 d0 d1
     go_wp2_with (first | (go_at_call 56; refine (HEN.out _ HFIN.out.2).mono ?_; rintro e wA ⟨rfl, hsA, hgA⟩) | fail)
     go_meet
     exact ⟨_, n1, pa, pc1, e1, _, _, _, _, HST, hsA, HFIN.out.1.grown HFIN.out.2.blk hgA (by decide) (by decide) (by decide) (by decide) (by decide)⟩
    have HRE : Hid (parseM (bsO s) = (sr0, (ln, co), 3)) := Lib.hid (HERR.out (ln, co) 3 (by
     unfold stepT
     rw [HTE.out, if_neg hk_rule, if_neg hk_zone, if_neg hk_line, if_neg hk_link]
     show (if (3 : Int) = 0 then _ else _) = _
     rw [if_neg (by decide)]
     unfold plT
     rw [HTE.out]))
    have g_rule : (TT.toList == [114, 117, 108, 101]) = false := by rw [dash_eq]; simpa using hk_rule
    have g_zone : (TT.toList == [122, 111, 110, 101]) = false := by rw [dash_eq]; simpa using hk_zone
    have g_line : (TT.toList == [108, 105, 110, 101]) = false := by rw [dash_eq]; simpa using hk_line
    have g_link : (TT.toList == [108, 105, 110, 107]) = false := by rw [dash_eq]; simpa using hk_link
    clear hk_rule hk_zone hk_line hk_link
    go_upto_region 11 with fail
    have HFW := Lib.hid (HF4.out)
    have kk1 := HFW.out.cell (j := 1) rfl
    have kk2 := HFW.out.cell (j := 2) rfl
    have k1 : W4.drew.cell? ⟨b11, 1, none⟩ = some (.int .i64 ln) := HFW.out.cell (j := 1) rfl
    have k2 : W4.drew.cell? ⟨b11, 2, none⟩ = some (.int .i64 co) := HFW.out.cell (j := 2) rfl
    have hb2 := (HR2.out.below HS4.out.bel).cell (j := 0) rfl
    have hb3 := HRW.out W4 HS4.out.bel
    obtain ⟨⟨c20, c21, c22, f20, f21, f22⟩, c30, c31, f30, f31⟩ := hb3
    clear hb2
    have hz := res_w (HR2.out.below HS4.out.bel) (HR3.out.below HS4.out.bel) (keepBelow HVB.out HS4.out.bel) HBL.out.1 HBL.out.2.1 HBL.out.2.2 (.slice none 0 0) (.slice none 0 0) (.slice none 0 0) (ln) (co)
    obtain ⟨Z', hZ⟩ : ∃ Z', (((((W4.setCell ⟨b2, 0, none⟩ (.slice none 0 0)).setCell ⟨b2, 1, none⟩ (.slice none 0 0)).setCell ⟨b2, 2, none⟩ (.slice none 0 0)).setCell ⟨b3, 0, none⟩ (.int .i64 (ln))).setCell ⟨b3, 1, none⟩ (.int .i64 (co))) = Z' := ⟨_, rfl⟩
    rw [hZ] at hz
    have HBZ : Hid (Below w.heap.size w Z'.drew) := Lib.hid (hz.1.drew)
    have r0 : Z'.drew.cell? ⟨b2, 0, none⟩ = some (.slice none 0 0) := hz.2.1
    have r1 : Z'.drew.cell? ⟨b2, 1, none⟩ = some (.slice none 0 0) := hz.2.2.1
    have r2 : Z'.drew.cell? ⟨b2, 2, none⟩ = some (.slice none 0 0) := hz.2.2.2.1
    have r3 : Z'.drew.cell? ⟨b3, 0, none⟩ = some (.int .i64 (ln)) := hz.2.2.2.2.1
    have r4 : Z'.drew.cell? ⟨b3, 1, none⟩ = some (.int .i64 (co)) := hz.2.2.2.2.2
    clear hz
    have hzk := ((((HFW.out.far (j := 0) h112 (.slice none 0 0)).far (j := 1) h112 (.slice none 0 0)).far (j := 2) h112 (.slice none 0 0)).far (j := 0) h113 (.int .i64 (ln : Nat))).far (j := 1) h113 (.int .i64 (co : Nat))
    rw [hZ] at hzk
    have v1 : Z'.drew.cell? ⟨b11, 1, none⟩ = some (.int .i64 ln) := hzk.cell (j := 1) rfl
    have v2 : Z'.drew.cell? ⟨b11, 2, none⟩ = some (.int .i64 co) := hzk.cell (j := 2) rfl
    clear hzk
    go_region
    all_goals go_wp2_with fail
    all_goals refine bodyPost_ret (v := .tuple #[.agg #[.slice none 0 0, .slice none 0 0, .slice none 0 0], .agg #[.int .i64 (ln), .int .i64 (co)], .int .i64 (3)]) (by simp [results, Tryz.results13, go_sem, r0, r1, r2, r3, r4]) rfl ?_
    all_goals exact par_no HRE.out rfl rfl rfl HBZ.out
   case rest =>
   obtain ⟨S1, n2, pa, pc, e2, r6, z6, l6, Z6, HST, HS6, HM6⟩ := hcut
   generalize wc = W6 at *
   have x2 : W6.cell? ⟨rb, 2, none⟩ = some (.int .i64 pa) := HS6.out.blk.cell (j := 2) rfl
   have x3 : W6.cell? ⟨rb, 3, none⟩ = some (.int .i64 pc) := HS6.out.blk.cell (j := 3) rfl
   have x4 : W6.cell? ⟨rb, 4, none⟩ = some (.int .i64 e2) := HS6.out.blk.cell (j := 4) rfl
   cases he : (e2 != 0) with
   | true =>
    have HRE : Hid (parseM (bsO s) = (sr0, (pa, pc), e2)) := Lib.hid (HERR.out (pa, pc) e2 (by rw [HST.out]; exact if_neg (by simpa using he)))
    go_upto_region 28 with fail
    have y2 : W6.drew.cell? ⟨rb, 2, none⟩ = some (.int .i64 pa) := x2
    have y3 : W6.drew.cell? ⟨rb, 3, none⟩ = some (.int .i64 pc) := x3
    have y4 : W6.drew.cell? ⟨rb, 4, none⟩ = some (.int .i64 e2) := x4
    have hb2 := (HR2.out.below HS6.out.bel).cell (j := 0) rfl
    have hb3 := HRW.out W6 HS6.out.bel
    obtain ⟨⟨c20, c21, c22, f20, f21, f22⟩, c30, c31, f30, f31⟩ := hb3
    clear hb2
    have hz := res_w (HR2.out.below HS6.out.bel) (HR3.out.below HS6.out.bel) (keepBelow HVB.out HS6.out.bel) HBL.out.1 HBL.out.2.1 HBL.out.2.2 (.slice none 0 0) (.slice none 0 0) (.slice none 0 0) (pa) (pc)
    obtain ⟨Z', hZ⟩ : ∃ Z', (((((W6.setCell ⟨b2, 0, none⟩ (.slice none 0 0)).setCell ⟨b2, 1, none⟩ (.slice none 0 0)).setCell ⟨b2, 2, none⟩ (.slice none 0 0)).setCell ⟨b3, 0, none⟩ (.int .i64 (pa))).setCell ⟨b3, 1, none⟩ (.int .i64 (pc))) = Z' := ⟨_, rfl⟩
    rw [hZ] at hz
    have HBZ : Hid (Below w.heap.size w Z'.drew) := Lib.hid (hz.1.drew)
    have r0 : Z'.drew.cell? ⟨b2, 0, none⟩ = some (.slice none 0 0) := hz.2.1
    have r1 : Z'.drew.cell? ⟨b2, 1, none⟩ = some (.slice none 0 0) := hz.2.2.1
    have r2 : Z'.drew.cell? ⟨b2, 2, none⟩ = some (.slice none 0 0) := hz.2.2.2.1
    have r3 : Z'.drew.cell? ⟨b3, 0, none⟩ = some (.int .i64 (pa)) := hz.2.2.2.2.1
    have r4 : Z'.drew.cell? ⟨b3, 1, none⟩ = some (.int .i64 (pc)) := hz.2.2.2.2.2
    clear hz
    have hzk := (((((HS6.out.blk).far (j := 0) hrb2 (.slice none 0 0)).far (j := 1) hrb2 (.slice none 0 0)).far (j := 2) hrb2 (.slice none 0 0)).far (j := 0) hrb3 (.int .i64 (pa : Nat))).far (j := 1) hrb3 (.int .i64 (pc : Nat))
    rw [hZ] at hzk
    have v2 : Z'.drew.cell? ⟨rb, 2, none⟩ = some (.int .i64 pa) := hzk.cell (j := 2) rfl
    have v3 : Z'.drew.cell? ⟨rb, 3, none⟩ = some (.int .i64 pc) := hzk.cell (j := 3) rfl
    have v4 : Z'.drew.cell? ⟨rb, 4, none⟩ = some (.int .i64 e2) := hzk.cell (j := 4) rfl
    clear hzk
    go_region
    all_goals go_wp2_with fail
    all_goals refine bodyPost_ret (v := .tuple #[.agg #[.slice none 0 0, .slice none 0 0, .slice none 0 0], .agg #[.int .i64 (pa), .int .i64 (pc)], .int .i64 (e2)]) (by simp [results, Tryz.results13, go_sem, r0, r1, r2, r3, r4]) rfl ?_
    all_goals exact par_no HRE.out rfl rfl rfl HBZ.out
   | false =>
    have he2 : e2 = 0 := by simpa using he
    subst he2
    have HRD : Hid (readS (LL.drop (i + 1)) S1 = readS LL sr0) := Lib.hid (by
     rw [← HRI.out, HDR.out]
     show _ = match lineStep ws sr with | .inl s' => _ | .inr e => _
     rw [step_ref ws sr HC.out.ne HWN.out, HST.out]
     rfl)
    have HLN2 : Hid (LnB (i + 1) S1) := Lib.hid (by
     have q := HLN.out.step (ws := ws) HWB.out.1
     rw [← step_same HC.out.ne HWN.out (by rw [HST.out]), HST.out] at q
     exact q)
    clear he
    go_wp2_with fail
    go_roundw
    case rel => exact ⟨i + 1, S1, _, _, _, _, by go_num, by omega, HM6, HS6.out.bel, HLN2, HRD⟩
    case measure => simp [intOf]; omega
  ·have hie : i = LL.length := by omega
   have HFN : Hid (readS LL sr0 = .inl sr) := Lib.hid (by rw [← HRI.out, List.drop_eq_nil_of_le (by omega)]; rfl)
   have HPM3 : Hid (parseM (bsO s) = if sr.zo.any (fun z => !doneB z) = true then (sr0, (0, 0), 4) else if (checkM sr).2 ≠ 0 then (sr0, (0, 0), (checkM sr).2) else (sr, (0, 0), 0)) := Lib.hid (by rw [HPM2.out, HFN.out])
   have hli : ¬(i : Int) < (LL.length : Int) := by omega
   have HLE : Hid (sr.ru.length ≤ 1000000 ∧ Z.length ≤ 1000000 ∧ sr.lk.length ≤ 1000000 ∧ ∀ j, j < Z.length → (Z.getD j zk0).1.li.length ≤ 1000000) := Lib.hid (by
    have h1 := HLN.out
    have h2 := HLB.out.2
    have h3 := congrArg List.length HSM.out.zs
    rw [List.length_map] at h3
    have := h1.ru
    have := h1.zo
    have := h1.lk
    refine ⟨by omega, by omega, by omega, fun j hj => ?_⟩
    have h4 := h1.li (Z.getD j zk0).1 (by rw [← HSM.out.zs]; exact List.mem_map_of_mem (getD_mem hj))
    omega)
   have HRS : Hid (RdSr wr rv zv lv sr Z) := Lib.hid (HSM.out.rd HLE.out.1 HLE.out.2.1 HLE.out.2.2.1 HLE.out.2.2.2)
   have HCP : Hid (CapV rv ∧ CapV zv ∧ CapV lv) := Lib.hid ⟨HSM.out.ru.cap, HSM.out.zo.cap, HSM.out.lk.cap⟩
   have HCK : Hid (∀ W, Below wr.heap.size wr W → Calls Tryz.prog 36 #[.agg #[rv, zv, lv]] W fun e w' => e = .returned (.tuple #[.string ⟨(checkM sr).1.toArray⟩, .int .i64 (checkM sr).2]) ∧ Below W.heap.size W w') := Lib.hid fun W hW => check19_any rv zv lv sr Z W (HRS.out.below hW) HLN.out.sz
   obtain ⟨ck, hck⟩ : ∃ ck, checkM sr = ck := ⟨_, rfl⟩
   rw [hck] at HCK HPM3
   clear hck hlt hie
   obtain ⟨nm, ce⟩ := ck
   obtain ⟨NM, rfl⟩ := bs_of nm
   have HCK2 : Hid (∀ W, Below wr.heap.size wr W → Calls Tryz.prog 36 #[.agg #[rv, zv, lv]] W fun e w' => e = .returned (.tuple #[.string NM, .int .i64 ce]) ∧ Below W.heap.size W w') := HCK
   clear HCK
   simp only at HPM3
   obtain ⟨ra, rc, rfl⟩ := HRS.out.ru.form
   obtain ⟨za, zc, rfl⟩ := HRS.out.zo.row.form
   obtain ⟨la, lc, rfl⟩ := HRS.out.lk.form
   have s1 : wr.cell? ⟨sb, 1, none⟩ = some (.slice za Z.length zc) := HSM.out.blk.cell (j := 1) rfl
   clear hi
   generalize wr = U at *
   go_wp2_with fail
   go_loopw [14] (fun u14 wr => ∃ j : Nat, u14 = .int .i64 j ∧ j ≤ Z.length ∧ Hid (Below U.heap.size U wr) ∧ Hid ((Z.take j).any (fun z => !doneB z.1) = false)) (fun u _ => Z.length - (intOf u).toNat)
   case atStart => exact ⟨0, rfl, Nat.zero_le _, Below.refl _ _, rfl⟩
   case round =>
    obtain ⟨j, rfl, hj, HBj, HAj⟩ := hrel
    have HVj := Lib.hid (keepBelow HBr.out HBj.out)
    have HSj := Lib.hid (HSM.out.below HBj.out)
    have y1 : wr.cell? ⟨sb, 1, none⟩ = some (.slice za Z.length zc) := HSj.out.blk.cell (j := 1) rfl
    by_cases hjl : j < Z.length
    ·obtain ⟨g1, zc2, ez, -, -⟩ := HSj.out.zo.pos (by omega)
     obtain ⟨rfl, rfl⟩ : za = some ⟨g1, 0, none⟩ ∧ zc = zc2 := by
      injection ez with q1 q2 q3
      exact ⟨q1, q3⟩
     clear ez
     have q0 := (HSj.out.zo.cell flZk_len zk0 (i := j) (j := 0) (u := .string ⟨(Z.getD j zk0).1.nm.toArray⟩) hjl (by decide) rfl).1
     have q1 := (HSj.out.zo.cell flZk_len zk0 (i := j) (j := 1) (u := (Z.getD j zk0).2) hjl (by decide) rfl).1
     have hlr := (HSj.out.li j hjl).rd flLi_len (d := li0) (HLE.out.2.2.2 j hjl)
     have HTK1 : Hid ((Z.take (j + 1)).any (fun z => !doneB z.1) = !doneB (Z.getD j zk0).1) := Lib.hid (by
      rw [List.take_succ_eq_append_getElem hjl, List.any_append, HAj.out, List.getD_eq_getElem?_getD, List.getElem?_eq_getElem hjl]
      simp)
     have HANY : Hid (doneB (Z.getD j zk0).1 = false → sr.zo.any (fun z => !doneB z) = true) := Lib.hid fun h => by
      rw [List.any_eq_true]
      refine ⟨(Z.getD j zk0).1, ?_, by rw [h]; rfl⟩
      rw [← HSM.out.zs]
      exact List.mem_map_of_mem (getD_mem hjl)
     obtain ⟨z, hz⟩ : ∃ z, Z.getD j zk0 = z := ⟨_, rfl⟩
     rw [hz] at q0 q1 hlr HTK1 HANY
     obtain ⟨⟨nm, li⟩, lv2⟩ := z
     obtain ⟨NM2, rfl⟩ := bs_of nm
     simp only at hlr HTK1 HANY
     have HOP : Hid (Calls Tryz.prog 57 #[.agg #[.string NM2, lv2]] wr fun e w' => e = .returned (.bool (!doneB ⟨bsO NM2, li⟩)) ∧ Below wr.heap.size wr w') := Lib.hid (open_any NM2 lv2 li wr hlr)
     have e0 : wr.cell? ⟨g1, j * 2, none⟩ = some (.string NM2) := q0
     have e1 : wr.cell? ⟨g1, j * 2 + 1, none⟩ = some lv2 := q1
     have hjb : (j : Int) < (Z.length : Int) := by omega
     have hjm : (j : Int) ≤ 1000000 := by have := HLE.out.2.1; omega
     obtain ⟨a2, n2, rfl⟩ := hlr.form
     obtain ⟨qd, hqd⟩ : ∃ q, doneB ⟨bsO NM2, li⟩ = q := ⟨_, rfl⟩
     rw [hqd] at HOP HTK1 HANY
     clear hlr hz q0 q1 hqd s1
     cases qd with
     | false =>
      have HRE : Hid (parseM (bsO s) = (sr0, (0, 0), 4)) := Lib.hid (HPM3.out.trans (if_pos (HANY.out rfl)))
      go_upto_region 33 with (first | (go_at_call 57; refine HOP.out.mono ?_; rintro e w5 ⟨rfl, hb5⟩; obtain ⟨W5, hW5⟩ : ∃ W, w5 = W := ⟨_, rfl⟩; rw [hW5] at hb5 ⊢; clear hW5; have HB5 := Lib.hid (keepBelow HVj.out hb5); clear hb5) | fail)
      have hb2 := (HR2.out.below HB5.out).cell (j := 0) rfl
      have hb3 := HRW.out W5 HB5.out
      obtain ⟨⟨c20, c21, c22, f20, f21, f22⟩, c30, c31, f30, f31⟩ := hb3
      clear hb2
      have hz := res_w (HR2.out.below HB5.out) (HR3.out.below HB5.out) (keepBelow HVB.out HB5.out) HBL.out.1 HBL.out.2.1 HBL.out.2.2 (.slice none 0 0) (.slice none 0 0) (.slice none 0 0) (0) (0)
      obtain ⟨Z', hZ⟩ : ∃ Z', (((((W5.setCell ⟨b2, 0, none⟩ (.slice none 0 0)).setCell ⟨b2, 1, none⟩ (.slice none 0 0)).setCell ⟨b2, 2, none⟩ (.slice none 0 0)).setCell ⟨b3, 0, none⟩ (.int .i64 (0))).setCell ⟨b3, 1, none⟩ (.int .i64 (0))) = Z' := ⟨_, rfl⟩
      rw [hZ] at hz
      have HBZ : Hid (Below w.heap.size w Z') := Lib.hid hz.1
      have r0 : Z'.cell? ⟨b2, 0, none⟩ = some (.slice none 0 0) := hz.2.1
      have r1 : Z'.cell? ⟨b2, 1, none⟩ = some (.slice none 0 0) := hz.2.2.1
      have r2 : Z'.cell? ⟨b2, 2, none⟩ = some (.slice none 0 0) := hz.2.2.2.1
      have r3 : Z'.cell? ⟨b3, 0, none⟩ = some (.int .i64 (0)) := hz.2.2.2.2.1
      have r4 : Z'.cell? ⟨b3, 1, none⟩ = some (.int .i64 (0)) := hz.2.2.2.2.2
      clear hz
      go_wp2_with fail
      all_goals refine bodyPost_ret (v := .tuple #[.agg #[.slice none 0 0, .slice none 0 0, .slice none 0 0], .agg #[.int .i64 (0), .int .i64 (0)], .int .i64 (4)]) (by simp [results, Tryz.results13, go_sem, r0, r1, r2, r3, r4]) rfl ?_
      all_goals exact par_no HRE.out rfl rfl rfl HBZ.out
     | true =>
      go_wp2_with (first | (go_at_call 57; refine HOP.out.mono ?_; rintro e w5 ⟨rfl, hb5⟩; have HB5 := Lib.hid (keepBelow HBj.out hb5); clear hb5) | fail)
      go_roundw
      case rel => exact ⟨j + 1, by go_num, hjl, HB5, HTK1⟩
      case measure => simp [intOf]; omega
    ·have hjn : j = Z.length := by omega
     subst hjn
     have hnj : ¬(Z.length : Int) < (Z.length : Int) := by omega
     have HPM4 : Hid (parseM (bsO s) = if ce ≠ 0 then (sr0, (0, 0), ce) else (sr, (0, 0), 0)) := Lib.hid (HPM3.out.trans (if_neg (by
      have q := HAj.out
      rw [List.take_length] at q
      rw [← HSM.out.zs, List.any_map]
      show ¬(Z.any fun z => !doneB z.1) = true
      rw [q]
      simp)))
     have k0 : wr.cell? ⟨sb, 0, none⟩ = some (.slice ra sr.ru.length rc) := HSj.out.blk.cell (j := 0) rfl
     have k2 : wr.cell? ⟨sb, 2, none⟩ = some (.slice la sr.lk.length lc) := HSj.out.blk.cell (j := 2) rfl
     clear hj hjl s1
     go_upto_region 35 with (first | (go_at_call 36; refine (HCK2.out _ HBj.out).mono ?_; rintro e w6 ⟨rfl, hb6⟩; obtain ⟨W6, hW6⟩ : ∃ W, w6 = W := ⟨_, rfl⟩; rw [hW6] at hb6 ⊢; clear hW6; have HB6 := Lib.hid (keepBelow HVj.out hb6); have HS6 := Lib.hid (HSj.out.below hb6); clear hb6) | fail)
     cases hce : (ce != 0) with
     | true =>
      have HRE : Hid (parseM (bsO s) = (sr0, (0, 0), ce)) := Lib.hid (HPM4.out.trans (if_pos (by simpa using hce)))
      have hb2 := (HR2.out.below HB6.out).cell (j := 0) rfl
      have hb3 := HRW.out W6 HB6.out
      obtain ⟨⟨c20, c21, c22, f20, f21, f22⟩, c30, c31, f30, f31⟩ := hb3
      clear hb2
      have hz := res_w (HR2.out.below HB6.out) (HR3.out.below HB6.out) (keepBelow HVB.out HB6.out) HBL.out.1 HBL.out.2.1 HBL.out.2.2 (.slice none 0 0) (.slice none 0 0) (.slice none 0 0) (0) (0)
      obtain ⟨Z', hZ⟩ : ∃ Z', (((((W6.setCell ⟨b2, 0, none⟩ (.slice none 0 0)).setCell ⟨b2, 1, none⟩ (.slice none 0 0)).setCell ⟨b2, 2, none⟩ (.slice none 0 0)).setCell ⟨b3, 0, none⟩ (.int .i64 (0))).setCell ⟨b3, 1, none⟩ (.int .i64 (0))) = Z' := ⟨_, rfl⟩
      rw [hZ] at hz
      have HBZ : Hid (Below w.heap.size w Z') := Lib.hid hz.1
      have r0 : Z'.cell? ⟨b2, 0, none⟩ = some (.slice none 0 0) := hz.2.1
      have r1 : Z'.cell? ⟨b2, 1, none⟩ = some (.slice none 0 0) := hz.2.2.1
      have r2 : Z'.cell? ⟨b2, 2, none⟩ = some (.slice none 0 0) := hz.2.2.2.1
      have r3 : Z'.cell? ⟨b3, 0, none⟩ = some (.int .i64 (0)) := hz.2.2.2.2.1
      have r4 : Z'.cell? ⟨b3, 1, none⟩ = some (.int .i64 (0)) := hz.2.2.2.2.2
      clear hz
      go_wp2_with fail
      all_goals refine bodyPost_ret (v := .tuple #[.agg #[.slice none 0 0, .slice none 0 0, .slice none 0 0], .agg #[.int .i64 (0), .int .i64 (0)], .int .i64 (ce)]) (by simp [results, Tryz.results13, go_sem, r0, r1, r2, r3, r4]) rfl ?_
      all_goals exact par_no HRE.out rfl rfl rfl HBZ.out
     | false =>
      obtain rfl : ce = 0 := by simpa using hce
      have HRE : Hid (parseM (bsO s) = (sr, (0, 0), 0)) := Lib.hid (HPM4.out.trans (if_neg (by simp)))
      have v0 : W6.cell? ⟨sb, 0, none⟩ = some (.slice ra sr.ru.length rc) := HS6.out.blk.cell (j := 0) rfl
      have v1 : W6.cell? ⟨sb, 1, none⟩ = some (.slice za Z.length zc) := HS6.out.blk.cell (j := 1) rfl
      have v2 : W6.cell? ⟨sb, 2, none⟩ = some (.slice la sr.lk.length lc) := HS6.out.blk.cell (j := 2) rfl
      have hb2 := (HR2.out.below HB6.out).cell (j := 0) rfl
      have hb3 := HRW.out W6 HB6.out
      obtain ⟨⟨c20, c21, c22, f20, f21, f22⟩, c30, c31, f30, f31⟩ := hb3
      clear hb2
      have hz := res_w (HR2.out.below HB6.out) (HR3.out.below HB6.out) (keepBelow HVB.out HB6.out) HBL.out.1 HBL.out.2.1 HBL.out.2.2 (.slice ra sr.ru.length rc) (.slice za Z.length zc) (.slice la sr.lk.length lc) (0) (0)
      obtain ⟨Z', hZ⟩ : ∃ Z', (((((W6.setCell ⟨b2, 0, none⟩ (.slice ra sr.ru.length rc)).setCell ⟨b2, 1, none⟩ (.slice za Z.length zc)).setCell ⟨b2, 2, none⟩ (.slice la sr.lk.length lc)).setCell ⟨b3, 0, none⟩ (.int .i64 (0))).setCell ⟨b3, 1, none⟩ (.int .i64 (0))) = Z' := ⟨_, rfl⟩
      rw [hZ] at hz
      have HBZ : Hid (Below w.heap.size w Z') := Lib.hid hz.1
      have r0 : Z'.cell? ⟨b2, 0, none⟩ = some (.slice ra sr.ru.length rc) := hz.2.1
      have r1 : Z'.cell? ⟨b2, 1, none⟩ = some (.slice za Z.length zc) := hz.2.2.1
      have r2 : Z'.cell? ⟨b2, 2, none⟩ = some (.slice la sr.lk.length lc) := hz.2.2.2.1
      have r3 : Z'.cell? ⟨b3, 0, none⟩ = some (.int .i64 (0)) := hz.2.2.2.2.1
      have r4 : Z'.cell? ⟨b3, 1, none⟩ = some (.int .i64 (0)) := hz.2.2.2.2.2
      clear hz
      have HRZ : Hid (RdSr Z' (.slice ra sr.ru.length rc) (.slice za Z.length zc) (.slice la sr.lk.length lc) sr Z) := Lib.hid (by
       have hfar : ∀ g, V.heap.size ≤ g → Z'.heap[g]? = W6.heap[g]? := fun g hg => by
        have n2 : g ≠ b2 := by have := HR2.out.lt; omega
        have n3 : g ≠ b3 := by have := HR3.out.lt; omega
        rw [← hZ, set_far_heap _ _ _ _ n3, set_far_heap _ _ _ _ n3, set_far_heap _ _ _ _ n2, set_far_heap _ _ _ _ n2, set_far_heap _ _ _ _ n2]
       exact (HS6.out.keep (hfar sb HS6.out.lo) (fun g q => hfar g (World.ownsRow.lt HS6.out.ru g q).1) (fun g q => hfar g (World.ownsRow.lt HS6.out.zo g q).1) (fun g q => hfar g (World.ownsRow.lt HS6.out.lk g q).1) (fun j hj g q => hfar g (World.ownsRow.lt (HS6.out.li j hj) g q).1)).rd HLE.out.1 HLE.out.2.1 HLE.out.2.2.1 HLE.out.2.2.2)
      go_wp2_with fail
      all_goals refine bodyPost_ret (v := .tuple #[.agg #[.slice ra sr.ru.length rc, .slice za Z.length zc, .slice la sr.lk.length lc], .agg #[.int .i64 (0), .int .i64 (0)], .int .i64 (0)]) (by simp [results, Tryz.results13, go_sem, r0, r1, r2, r3, r4]) rfl ?_
      all_goals exact ⟨_, _, _, Z, by rw [HRE.out]; rfl, by rw [HRE.out]; exact HRZ.out, HCP.out.1, HCP.out.2.1, HCP.out.2.2, HBZ.out⟩
end Go.Proofs.YtlbglinpgjlbkaaGreatDoor
