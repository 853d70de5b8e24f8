import Derived.Test.YtlbglinpgjlbkaaGreatDoorWkQp
import Derived.Deep.RegionHeld3
/- Zone texts: the program's reader: line. Printed by gen_r9.py. -/
namespace Go.Proofs.YtlbglinpgjlbkaaGreatDoor
open Go.RowKit Wk

def liE (ws : List Tok) (o : Int) (r : Bs × Int) (f : Bs) : SM LiT := SM.bind (checkS ws untB) fun _ => SM.bind (yearS ws) fun y => SM.bind (whenS ws) fun w => SM.ret ⟨o, r.1, r.2, f, false, ⟨y, w.1, w.2.1, w.2.2.1, w.2.2.2⟩⟩
def liD (ws : List Tok) (o : Int) (r : Bs × Int) (f : Bs) : SM LiT := SM.bind (lastS ws) fun la => if la = true then SM.ret ⟨o, r.1, r.2, f, true, un0⟩ else liE ws o r f
def liC (ws : List Tok) (o : Int) (r : Bs × Int) : SM LiT := SM.bind (checkS ws fmtB) fun f => liD ws o r f
theorem lineS_eq (ws : List Tok) : lineS ws = SM.bind (limS ws offB) fun o => SM.bind (rulesS ws) fun r => liC ws o r := rfl
theorem Tryz.infoLi : (Tryz.prog.info? 102).map (fun i => (i.zero, i.size, i.bytes)) = some (some (.agg #[.int .i64 0, .string ⟨#[]⟩, .int .i64 0, .string ⟨#[]⟩, .bool false, .int .i64 0, .int .i64 0, .int .i64 0, .int .i64 0, .int .i64 0, .int .i64 0, .int .i64 0]), 12, 112) := by kernel_rfl
theorem lin_fin {w0 : World} {rb : Nat} {wv : Value} {ws : List Tok} {sb : Nat} {sr : SrT} {rv lv : Value} {Z : List ZkT} {s : RSt} {w w3 : World} {g1 zc m n2 qv : Nat} {a2 pv : Option Addr} {NM : ByteArray} {li : List LiT} {x : LiT} (hm : Z.length = m + 1) (hz : Z.getD m zk0 = (⟨bsO NM, li⟩, .slice a2 li.length n2))
  (hs : RSat w0 rb wv ws s w) (hM : SrcM w0.heap.size sb sr rv (.slice (some ⟨g1, 0, none⟩) (m + 1) zc) lv Z w) (hlo : OwnG 102 12 flLi w w0.heap.size (.slice a2 li.length n2) li)
  (o1 : OwnG 102 12 flLi w3 (topB (.slice a2 li.length n2) w) (.slice pv (li.length + 1) qv) (li ++ [x])) (b1 : Below w0.heap.size w0 w3) (k1 : ∀ b, b < w.heap.size → (Value.slice a2 li.length n2).ownBlock ≠ some b → w3.heap[b]? = w.heap[b]?) (hB : w0.heap.size ≤ topB (.slice a2 li.length n2) w) :
  SrcM w0.heap.size sb (addLine sr x) rv (.slice (some ⟨g1, 0, none⟩) (m + 1) zc) lv (Z.set m (⟨bsO NM, li ++ [x]⟩, .slice pv (li.length + 1) qv)) (w3.setCell ⟨g1, m * 2 + 1, none⟩ (.slice pv (li.length + 1) qv)) ∧
  RSat w0 rb wv ws s (w3.setCell ⟨g1, m * 2 + 1, none⟩ (.slice pv (li.length + 1) qv)) ∧ w3.cell? ⟨g1, m * 2 + 1, none⟩ = some (.slice a2 li.length n2) ∧ w3.frozen? ⟨g1, m * 2 + 1, none⟩ = false := by
 have hz3 : OwnG 45 2 flZk w3 w0.heap.size (.slice (some ⟨g1, 0, none⟩) Z.length zc) Z := by
  rw [hm]
  exact hM.zo.same fun g q => k1 g (World.ownsRow.lt hM.zo g q).2 fun q' => hlo.apart2 hM.zo (by decide) q' q
 have hgb : g1 ≠ rb := hM.zo.apart hs.blk (by decide) rfl
 have hg0 : w0.heap.size ≤ g1 := (World.ownsRow.lt hM.zo g1 rfl).1
 have hc := hz3.cell flZk_len zk0 (i := m) (j := 1) (u := .slice a2 li.length n2) (by omega) (by decide) (by rw [hz]; rfl)
 refine ⟨?_, hs.turn b1 k1 (fun q => hlo.apart hs.blk (by decide) q rfl) hgb hg0, hc.1, hc.2⟩
 have h := SrcM.addLi (x := x) (v1 := .slice pv (li.length + 1) qv) (w3 := w3) hm hM (by rw [hz]; exact o1.mono hB) (by rw [hz]; exact k1) (by rw [hz]; exact topB_new o1)
 rw [hz] at h
 exact h
def LiCells (sb g1 m zc b5 : Nat) (cs : Array Value) (w' : World) : Prop := w'.cell? ⟨sb, 1, none⟩ = some (.slice (some ⟨g1, 0, none⟩) (m + 1) zc) ∧ w'.cell? ⟨b5, 0, none⟩ = some (cs.getD 0 undef) ∧ w'.cell? ⟨b5, 1, none⟩ = some (cs.getD 1 undef) ∧ w'.cell? ⟨b5, 2, none⟩ = some (cs.getD 2 undef) ∧ w'.cell? ⟨b5, 3, none⟩ = some (cs.getD 3 undef) ∧ w'.cell? ⟨b5, 4, none⟩ = some (cs.getD 4 undef) ∧ w'.cell? ⟨b5, 5, none⟩ = some (cs.getD 5 undef) ∧ w'.cell? ⟨b5, 6, none⟩ = some (cs.getD 6 undef) ∧ w'.cell? ⟨b5, 7, none⟩ = some (cs.getD 7 undef) ∧ w'.cell? ⟨b5, 8, none⟩ = some (cs.getD 8 undef) ∧ w'.cell? ⟨b5, 9, none⟩ = some (cs.getD 9 undef) ∧ w'.cell? ⟨b5, 10, none⟩ = some (cs.getD 10 undef) ∧ w'.cell? ⟨b5, 11, none⟩ = some (cs.getD 11 undef)
theorem li_cells {w : World} {sb g1 m zc b5 : Nat} {rv lv c0 c1 c2 c3 c4 c5 c6 c7 c8 c9 c10 c11 : Value} {T T' : TypeId} (h : Blk w sb #[rv, .slice (some ⟨g1, 0, none⟩) (m + 1) zc, lv] T) (h' : Blk w b5 #[c0, c1, c2, c3, c4, c5, c6, c7, c8, c9, c10, c11] T') : LiCells sb g1 m zc b5 #[c0, c1, c2, c3, c4, c5, c6, c7, c8, c9, c10, c11] w :=
 ⟨h.cell (j := 1) rfl, h'.cell (j := 0) rfl, h'.cell (j := 1) rfl, h'.cell (j := 2) rfl, h'.cell (j := 3) rfl, h'.cell (j := 4) rfl, h'.cell (j := 5) rfl, h'.cell (j := 6) rfl, h'.cell (j := 7) rfl, h'.cell (j := 8) rfl, h'.cell (j := 9) rfl, h'.cell (j := 10) rfl, h'.cell (j := 11) rfl⟩

set_option maxRecDepth 100000 in
set_option maxHeartbeats 8000000 in
theorem rline_ok {w0 : World} {rb sb : Nat} {wv : Value} {ws : List Tok} (hc : RCtx w0 rb wv ws) (hg : Glob w0) (s : RSt) (sr : SrT) (rv zv lv : Value) (Z : List ZkT) (w : World) (h : RSat w0 rb wv ws s w) (hm : SrcM w0.heap.size sb sr rv zv lv Z w) (hl : Z.length < 1000000) (hli : ∀ i, i < Z.length → (Z.getD i zk0).1.li.length < 1000000)
  (hq : (sr.zo == [] || doneB (sr.zo.getLastD ⟨[], []⟩)) = false) :
  Calls Tryz.prog 45 #[.pointer (some ⟨rb, 0, none⟩), .pointer (some ⟨sb, 0, none⟩)] w (LPost w0 rb wv ws sb (lineS ws s).2 (addLine sr (lineS ws s).1)) := by
 have HC := Lib.hid hc
 have HG := Lib.hid hg
 have HM := Lib.hid hm
 have HH := Lib.hid h
 obtain ⟨R, hR⟩ : ∃ R, lineS ws s = R := ⟨_, rfl⟩
 rw [hR]
 rw [lineS_eq] at hR
 have HR1 : Hid ((SM.bind (rulesS ws) fun r => liC ws (limS ws offB s).1 r) (limS ws offB s).2 = R) := hR
 clear hR
 obtain ⟨r, hr⟩ : ∃ r, limS ws offB s = r := ⟨_, rfl⟩
 rw [hr] at HR1
 have HLM : Hid (∀ W, RSat w0 rb wv ws s W → Calls Tryz.prog 121 #[.pointer (some ⟨rb, 0, none⟩), .func (.func 125) #[] #[]] W (MPost w0 rb wv ws intV r W)) := Lib.hid (by rw [← hr]; exact fun W hW => limited_off HC.out HG.out s W hW)
 clear hr
 obtain ⟨of, s1⟩ := r
 simp only at HR1
 have HLM2 : Hid (∀ W, RSat w0 rb wv ws s W → Calls Tryz.prog 121 #[.pointer (some ⟨rb, 0, none⟩), .func (.func 125) #[] #[]] W fun e w' => e = .returned (.int .i64 of) ∧ RSat w0 rb wv ws s1 w' ∧ 1 ≤ s1.n ∧ W.grownBy w' (some rb)) := HLM
 clear HLM
 have h0 : 0 < Z.length := by
  rcases Nat.eq_zero_or_pos Z.length with q | q
  ·have := congrArg List.length hm.zs
   rw [List.length_map, q] at this
   rw [show sr.zo = [] from List.eq_nil_of_length_eq_zero this.symm] at hq
   exact absurd hq (by simp)
  ·exact q
 obtain ⟨m, hm1⟩ : ∃ m, Z.length = m + 1 := ⟨Z.length - 1, by omega⟩
 obtain ⟨g1, zc, ez, -, -⟩ := hm.zo.pos h0
 have hzo := hm.zo
 rw [ez] at hzo
 have q0 := (hzo.cell flZk_len zk0 (i := m) (j := 0) (u := .string ⟨(Z.getD m zk0).1.nm.toArray⟩) (by omega) (by decide) rfl).1
 have q1 := (hzo.cell flZk_len zk0 (i := m) (j := 1) (u := (Z.getD m zk0).2) (by omega) (by decide) rfl).1
 rw [zlast_at hm.zs hm1] at hq
 have hlr := (hm.li m (by omega)).rd flLi_len (d := li0) (Nat.le_of_lt (hli m (by omega)))
 have hll := hli m (by omega)
 obtain ⟨z, hz⟩ : ∃ z, Z.getD m zk0 = z := ⟨_, rfl⟩
 have HZE := Lib.hid hz
 rw [hz] at q0 q1 hq hlr hll
 rw [hm1] at ez
 subst ez
 obtain ⟨⟨nm, li⟩, lv2⟩ := z
 obtain ⟨NM, rfl⟩ := bs_of nm
 simp only at hlr hq hll
 have HDN : Hid (Calls Tryz.prog 51 #[.agg #[.string NM, lv2]] w fun e w' => e = .returned (.bool false) ∧ Below w.heap.size w w') := Lib.hid (by rw [← hq]; exact done_any (bsO NM) lv2 li w hlr)
 obtain ⟨a2, n2, rfl⟩ := hlr.form
 have e0 : w.cell? ⟨g1, m * 2, none⟩ = some (.string NM) := q0
 have e1 : w.cell? ⟨g1, m * 2 + 1, none⟩ = some (.slice a2 li.length n2) := q1
 have y1 : w.cell? ⟨sb, 1, none⟩ = some (.slice (some ⟨g1, 0, none⟩) (m + 1) zc) := HM.out.blk.cell (j := 1) rfl
 have hmi : (((m + 1 : Nat) : Int) - 1) = (m : Int) := by omega
 have hmb : (m : Int) ≤ 1000000 := by omega
 have hm0 : (((m + 1 : Nat) : Int) == 0) = false := by simp; omega
 have HM1 := Lib.hid hm1
 have HLL := Lib.hid hll
 clear hc hg h hm hl hli hq h0 q0 q1 hzo hz hm1 hlr hll
 go_enter Tryz.func45, Tryz.ntmps45
 go_upto_region 4 with (first | (go_at_call 51; refine HDN.out.mono ?_; rintro e w' ⟨rfl, hb⟩; have HHB := Lib.hid (HH.out.below hb); have HMB := Lib.hid (HM.out.below hb)) | (go_at_call 121; refine (HLM2.out _ HHB.out).mono ?_; rintro e w1 ⟨rfl, hs1, hn1, hg1⟩; obtain ⟨W, hW⟩ : ∃ W, w1 = W := ⟨_, rfl⟩; rw [hW] at hs1 hg1 ⊢; clear hW; have HS1 := Lib.hid hs1; have HMW := Lib.hid (HMB.out.grown HHB.out.blk hg1 (by decide) (by decide) (by decide) (by decide) (by decide)); clear hs1 hn1 hg1) | fail)
 obtain ⟨b5, hb5⟩ : ∃ b, W.heap.size = b := ⟨_, rfl⟩
 obtain ⟨X, hX⟩ : ∃ X, W.alloc (.cells #[.int .i64 of, .string ⟨#[]⟩, .int .i64 0, .string ⟨#[]⟩, .bool false, .int .i64 0, .int .i64 0, .int .i64 0, .int .i64 0, .int .i64 0, .int .i64 0, .int .i64 0] 102) = X := ⟨_, rfl⟩
 have HBS : Hid (BxS w0 rb sb rv (.slice (some ⟨g1, 0, none⟩) (m + 1) zc) lv Z b5) := Lib.hid (by rw [← hb5]; exact BxS.new HS1.out HMW.out)
 have HXM : Hid (BxM w0 rb wv ws sb sr rv (.slice (some ⟨g1, 0, none⟩) (m + 1) zc) lv Z b5 102 #[.int .i64 of, .string ⟨#[]⟩, .int .i64 0, .string ⟨#[]⟩, .bool false, .int .i64 0, .int .i64 0, .int .i64 0, .int .i64 0, .int .i64 0, .int .i64 0, .int .i64 0] s1 X) := Lib.hid (by rw [← hX, ← hb5]; exact BxM.new HS1.out HMW.out _ _)
 try rw [hX]
 try rw [hb5]
 clear hX hb5 hb e0 e1 y1 hm0 HS1 HMW HMB HHB HH HM HDN HLM2
 have HR2 : Hid (liC ws of (rulesS ws s1).1 (rulesS ws s1).2 = R) := HR1
 obtain ⟨r, hr⟩ : ∃ r, wordS ws s1 = r := ⟨_, rfl⟩
 have HWD := Lib.hid (word_any HC.out s1 X HXM.out.st)
 have HN3 := Lib.hid (word_n ws s1 HC.out.ne HXM.out.st.hi)
 have HSZ := Lib.hid (word_sz HC.out s1)
 have HTO : Hid (rulesS ws s1 = (if r.1 = [45] then SM.ret ([], 0) else if nameB r.1 = true then SM.ret (r.1, 0) else SM.bind (errS ws (offsetM r.1).2) fun _ => SM.bind (needS ws (savB (offsetM r.1).1) 2) fun _ => SM.ret ([], (offsetM r.1).1)) r.2) := Lib.hid (by rw [← hr]; rfl)
 rw [hr] at HWD HN3 HSZ
 clear hr HR1
 obtain ⟨t, s2⟩ := r
 simp only at HN3 HSZ
 obtain ⟨TT, rfl⟩ := bs_of t
 go_upto_block 0 with (first | (go_at_call 47; refine HWD.out.mono ?_; rintro e w3 ⟨rfl, hs3, hg3⟩; obtain ⟨V, hV⟩ : ∃ V, w3 = V := ⟨_, rfl⟩; rw [hV] at hs3 hg3 ⊢; clear hV; have HVM := Lib.hid (HXM.out.meth HBS.out hs3 hg3); clear hs3 hg3) | fail)
 go_cut [7, 8] from 34 to 56 (fun _ _ wx => ∃ (RU : ByteArray) (sv : Int) (s3 : RSt), Hid (rulesS ws s1 = ((bsO RU, sv), s3)) ∧ Hid (1 ≤ s3.n) ∧ Hid (BxM w0 rb wv ws sb sr rv (.slice (some ⟨g1, 0, none⟩) (m + 1) zc) lv Z b5 102 #[.int .i64 of, .string RU, .int .i64 sv, .string ⟨#[]⟩, .bool false, .int .i64 0, .int .i64 0, .int .i64 0, .int .i64 0, .int .i64 0, .int .i64 0, .int .i64 0] s3 wx))
 case first =>
  have HBV := Lib.hid HVM.out.bx
  have c1 := HBV.out.cell (j := 1) rfl
  have f1 := HBV.out.frz 1
  by_cases ho : bsO TT = [45]
  ·have g1 : (TT.toList == [45]) = true := by rw [dash_eq, ho]; rfl
   have HT : Hid (rulesS ws s1 = ((bsO ⟨#[]⟩, 0), s2)) := Lib.hid (by rw [HTO.out, if_pos ho]; rfl)
   clear ho HTO
   go_wp2_with fail
   go_meet
   exact ⟨⟨#[]⟩, 0, s2, HT.out, HN3.out, HVM.out⟩
  have g1 : (TT.toList == [45]) = false := by rw [dash_eq]; simpa using ho
  obtain ⟨q, hq⟩ : ∃ q, nameB (bsO TT) = q := ⟨_, rfl⟩
  have HNA : Hid (∀ W, Calls Tryz.prog 65 #[.string TT] W fun e w' => e = .returned (.bool q) ∧ w' = W) := Lib.hid (by rw [← hq]; exact fun W => name_any TT W)
  cases q with
  | true =>
   have HT : Hid (rulesS ws s1 = ((bsO TT, 0), s2)) := Lib.hid (by rw [HTO.out, if_neg ho, if_pos hq]; rfl)
   have HQ := Lib.hid (HVM.out.set HBS.out 1 (.string TT))
   clear ho hq HTO
   go_wp2_with (first | (go_at_call 65; refine (HNA.out _).mono ?_; rintro e w' ⟨rfl, hw⟩; rw [hw]; clear hw) | fail)
   go_meet
   exact ⟨TT, 0, s2, HT.out, HN3.out, HQ.out⟩
  | false =>
  obtain ⟨x, hx⟩ : ∃ q, offsetM (bsO TT) = q := ⟨_, rfl⟩
  have HOF : Hid (∀ W, Below w0.heap.size w0 W → Calls Tryz.prog 126 #[.string TT] W fun e w' => e = .returned (.tuple #[.int .i64 x.1, .int .i64 x.2]) ∧ Below W.heap.size W w') := Lib.hid (by
   rw [← hx]
   exact fun W hW => offset_any TT (by have := HSZ.out; rw [bs_len] at this; omega) W (HG.out.below hW))
  have HT : Hid (rulesS ws s1 = (([], x.1), if savB x.1 = true then failS ws x.2 s2 else failS ws 2 (failS ws x.2 s2))) := Lib.hid (by
   rw [HTO.out, if_neg ho, if_neg (by rw [hq]; simp), hx]
   rfl)
  clear ho hq hx HTO
  obtain ⟨xn, xe⟩ := x
  have HF1 : Hid (∀ W, RSat w0 rb wv ws s2 W → Calls Tryz.prog 119 #[.pointer (some ⟨rb, 0, none⟩), .int .i64 xe] W fun e' w' => e' = .returned (.tuple #[]) ∧ RSat w0 rb wv ws (failS ws xe s2) w' ∧ W.grownBy w' (some rb)) := Lib.hid fun W hW => fail_any HC.out s2 xe W hW HN3.out
  have HN4 : Hid (1 ≤ (failS ws xe s2).n) := Lib.hid (by rw [fail_n]; exact HN3.out)
  obtain ⟨s4, h4⟩ : ∃ s4, failS ws xe s2 = s4 := ⟨_, rfl⟩
  rw [h4] at HF1 HN4
  obtain ⟨q, hq⟩ : ∃ q, savB xn = q := ⟨_, rfl⟩
  have HSV : Hid (∀ W, Calls Tryz.prog 122 #[.int .i64 xn] W fun e w' => e = .returned (.bool q) ∧ w' = W) := Lib.hid (by rw [← hq]; exact fun W => isSaving_any xn W)
  have HT2 : Hid (rulesS ws s1 = ((bsO ⟨#[]⟩, xn), if q = true then s4 else failS ws 2 s4)) := Lib.hid (by rw [HT.out, ← h4, hq])
  clear h4 HT hq c1 f1
  cases q with
  | true =>
   have HT3 : Hid (rulesS ws s1 = ((bsO ⟨#[]⟩, xn), s4)) := HT2
   go_wp2_with (first | (go_at_call 65; refine (HNA.out _).mono ?_; rintro e w' ⟨rfl, hw⟩; rw [hw]; clear hw) | (go_at_call 126; refine (HOF.out _ HVM.out.st.bel).mono ?_; rintro e w' ⟨rfl, hb⟩; have HVB := Lib.hid (HVM.out.below hb)) | (go_at_call 119; refine (HF1.out _ HVB.out.st).mono ?_; rintro e w4 ⟨rfl, hs4, hg4⟩; have HUM := Lib.hid (HVB.out.meth HBS.out hs4 hg4); have c2 := HUM.out.bx.cell (j := 2) rfl; have f2 := HUM.out.bx.frz 2; have HQ := Lib.hid (HUM.out.set HBS.out 2 (.int .i64 xn)); clear hs4 hg4) | (go_at_call 122; refine (HSV.out _).mono ?_; rintro e w' ⟨rfl, hw⟩; rw [hw]; clear hw) | fail)
   go_meet
   exact ⟨⟨#[]⟩, xn, s4, HT3.out, HN4.out, HQ.out⟩
  | false =>
   have HT3 : Hid (rulesS ws s1 = ((bsO ⟨#[]⟩, xn), failS ws 2 s4)) := HT2
   have HF2 : Hid (∀ W, RSat w0 rb wv ws s4 W → Calls Tryz.prog 119 #[.pointer (some ⟨rb, 0, none⟩), .int .i64 2] W fun e' w' => e' = .returned (.tuple #[]) ∧ RSat w0 rb wv ws (failS ws 2 s4) w' ∧ W.grownBy w' (some rb)) := Lib.hid fun W hW => fail_any HC.out s4 2 W hW HN4.out
   go_upto_region 7 with (first | (go_at_call 65; refine (HNA.out _).mono ?_; rintro e w' ⟨rfl, hw⟩; rw [hw]; clear hw) | (go_at_call 126; refine (HOF.out _ HVM.out.st.bel).mono ?_; rintro e w' ⟨rfl, hb⟩; have HVB := Lib.hid (HVM.out.below hb)) | (go_at_call 119; refine (HF1.out _ HVB.out.st).mono ?_; rintro e w4 ⟨rfl, hs4, hg4⟩; have HUM := Lib.hid (HVB.out.meth HBS.out hs4 hg4); clear hs4 hg4) | fail)
   go_wp2_with (first | (go_at_call 122; refine (HSV.out _).mono ?_; rintro e w' ⟨rfl, hw⟩; rw [hw]; clear hw) | (go_at_call 119; refine (HF2.out _ HUM.out.st).mono ?_; rintro e w6 ⟨rfl, hs6, hg6⟩; have HPM := Lib.hid (HUM.out.meth HBS.out hs6 hg6); have c2 := HPM.out.bx.cell (j := 2) rfl; have f2 := HPM.out.bx.frz 2; have HQ := Lib.hid (HPM.out.set HBS.out 2 (.int .i64 xn)); clear hs6 hg6) | fail)
   go_meet
   exact ⟨⟨#[]⟩, xn, _, HT3.out, by rw [fail_n]; exact HN4.out, HQ.out⟩
 case rest =>
 obtain ⟨RU, sv, s3, HT, HN4, HWM⟩ := hcut
 generalize wc = V4 at *
 have HR3 : Hid (liC ws of (bsO RU, sv) s3 = R) := Lib.hid (by
  have q := HR2.out
  rw [HT.out] at q
  exact q)
 clear HT HR2 HVM HXM HWD HTO
 obtain ⟨r, hr⟩ : ∃ r, checkS ws fmtB s3 = r := ⟨_, rfl⟩
 have HCF := Lib.hid (check_format HC.out HG.out s3 V4 HWM.out.st)
 have HR4 : Hid (liD ws of (bsO RU, sv) r.1 r.2 = R) := Lib.hid (by rw [← hr]; exact HR3.out)
 rw [hr] at HCF
 clear hr HR3
 obtain ⟨t, s5⟩ := r
 obtain ⟨FM, rfl⟩ := bs_of t
 have HCF2 : Hid (Calls Tryz.prog 117 #[.pointer (some ⟨rb, 0, none⟩), .func (.func 127) #[] #[]] V4 fun e w' => e = .returned (.string FM) ∧ RSat w0 rb wv ws s5 w' ∧ 1 ≤ s5.n ∧ V4.grownBy w' (some rb)) := HCF
 clear HCF
 go_upto_region 14 with (first | (go_at_call 117; refine HCF2.out.mono ?_; rintro e w5 ⟨rfl, hs5, hn5, hg5⟩; obtain ⟨V5, hV5⟩ : ∃ V, w5 = V := ⟨_, rfl⟩; rw [hV5] at hs5 hg5 ⊢; clear hV5; have HN5 := Lib.hid hn5; have HV5 := Lib.hid (HWM.out.meth HBS.out hs5 hg5); clear hs5 hn5 hg5; have c3 := HV5.out.bx.cell (j := 3) rfl; have f3 := HV5.out.bx.frz 3) | fail)
 obtain ⟨V6, hV6⟩ : ∃ V, V5.setCell ⟨b5, 3, none⟩ (.string FM) = V := ⟨_, rfl⟩
 have HV6 : Hid (BxM w0 rb wv ws sb sr rv (.slice (some ⟨g1, 0, none⟩) (m + 1) zc) lv Z b5 102 #[.int .i64 of, .string RU, .int .i64 sv, .string FM, .bool false, .int .i64 0, .int .i64 0, .int .i64 0, .int .i64 0, .int .i64 0, .int .i64 0, .int .i64 0] s5 V6) := Lib.hid (by rw [← hV6]; exact HV5.out.set HBS.out 3 _)
 try rw [hV6]
 clear hV6 HV5 c3 f3 HWM HCF2
 go_cut [] from 60 to 70 (fun wx => Hid (BxM w0 rb wv ws sb sr rv (.slice (some ⟨g1, 0, none⟩) (m + 1) zc) lv Z b5 102 #[.int .i64 of, .string RU, .int .i64 sv, .string FM, .bool (s5.n == ws.length), .int .i64 0, .int .i64 0, .int .i64 0, .int .i64 0, .int .i64 0, .int .i64 0, .int .i64 0] s5 wx))
 case first =>
  obtain ⟨wa, wb, wc0, hwv, -, -, -⟩ := (HV6.out.st.rd HC.out).at (k := 0) HC.out.ne
  have HRB : Hid (Blk V6 rb #[.int .i64 s5.p.1, .int .i64 s5.p.2, .int .i64 s5.e, wv, .int .i64 s5.n] 82) := Lib.hid HV6.out.st.blk
  have HQ := Lib.hid (HV6.out.set HBS.out 4 (.bool (s5.n == ws.length)))
  have hee : ((s5.n : Int) == (ws.length : Int)) = (s5.n == ws.length) := by rw [Bool.eq_iff_iff]; simp; omega
  subst hwv
  have z3 := HRB.out.cell (j := 3) rfl
  have z4 := HRB.out.cell (j := 4) rfl
  have c4 := HV6.out.bx.cell (j := 4) rfl
  have f4 := HV6.out.bx.frz 4
  have y3 : V6.drew.cell? ⟨rb, 3, none⟩ = _ := z3
  have y4 : V6.drew.cell? ⟨rb, 4, none⟩ = _ := z4
  have y5 : V6.drew.cell? ⟨b5, 4, none⟩ = _ := c4
  have y6 : V6.drew.frozen? ⟨b5, 4, none⟩ = false := f4
  go_region
  all_goals go_wp2_with fail
  all_goals go_meet
  all_goals exact HQ.out.below (Below.refl _ _).drew
 case rest =>
 have HV7 := hcut
 clear hcut HV6
 generalize wc = V7 at *
 have c4 := HV7.out.bx.cell (j := 4) rfl
 by_cases hla : s5.n = ws.length
 ·have g4 : (s5.n == ws.length) = true := by simpa using hla
  rw [g4] at c4 HV7
  have HRF : Hid (R = (⟨of, bsO RU, sv, bsO FM, true, un0⟩, s5)) := Lib.hid (by
   rw [← HR4.out]
   show (if (s5.n == ws.length) = true then SM.ret _ else _ : SM LiT) s5 = _
   rw [g4]
   rfl)
  clear hla g4 HR4
  go_upto_region 19 with fail
  clear c4
  have hd : Below V7.heap.size V7 V7.drew := (Below.refl _ _).drew
  have HMC := Lib.hid (HV7.out.below hd)
  have hzo := HV7.out.sm.zo
  have hzz : OwnG 45 2 flZk V7 w0.heap.size (.slice (some ⟨g1, 0, none⟩) Z.length zc) Z := by rw [HM1.out]; exact hzo
  have hcell := hzz.cell flZk_len zk0 (i := m) (j := 1) (u := .slice a2 li.length n2) (by have := HM1.out; omega) (by decide) (by rw [HZE.out]; rfl)
  have l00 : V7.cell? ⟨g1, m * 2 + 1, none⟩ = some (.slice a2 li.length n2) := hcell.1
  have l0 : V7.drew.cell? ⟨g1, m * 2 + 1, none⟩ = some (.slice a2 li.length n2) := keepCell hd l00
  have lA : ∀ O, (V7.alloc O).cell? ⟨g1, m * 2 + 1, none⟩ = some (.slice a2 li.length n2) := fun O => keepCell ((Below.refl _ _).alloc (Nat.le_refl _) _) l00
  have lB : ∀ O, (V7.alloc O).drew.cell? ⟨g1, m * 2 + 1, none⟩ = some (.slice a2 li.length n2) := fun O => keepCell (((Below.refl _ _).alloc (Nat.le_refl _) _).drew) l00
  have HS0 := Lib.hid (li_cells (w := V7) (c0 := .int .i64 of) HV7.out.sm.blk HV7.out.bx)
  have HS1 := Lib.hid (li_cells (w := V7.drew) (c0 := .int .i64 of) HMC.out.sm.blk HMC.out.bx)
  have HSA : Hid (∀ O, LiCells sb g1 m zc b5 #[.int .i64 of, .string RU, .int .i64 sv, .string FM, .bool true, .int .i64 0, .int .i64 0, .int .i64 0, .int .i64 0, .int .i64 0, .int .i64 0, .int .i64 0] (V7.alloc O)) := Lib.hid fun O => li_cells (HV7.out.sm.blk.below ((Below.refl _ _).alloc (Nat.le_refl _) _)) (HV7.out.bx.below ((Below.refl _ _).alloc (Nat.le_refl _) _))
  have HSB : Hid (∀ O, LiCells sb g1 m zc b5 #[.int .i64 of, .string RU, .int .i64 sv, .string FM, .bool true, .int .i64 0, .int .i64 0, .int .i64 0, .int .i64 0, .int .i64 0, .int .i64 0, .int .i64 0] (V7.alloc O).drew) := Lib.hid fun O => li_cells (HV7.out.sm.blk.below (((Below.refl _ _).alloc (Nat.le_refl _) _).drew)) (HV7.out.bx.below (((Below.refl _ _).alloc (Nat.le_refl _) _).drew))
  have HO : Hid (∀ u ∈ flLi (⟨of, bsO RU, sv, bsO FM, true, un0⟩ : LiT), u.oneCell' = true) := Lib.hid (by intro u hu; simp [flLi, un0, on0] at hu; rcases hu with rfl | rfl | rfl | rfl | rfl | rfl | rfl | rfl | rfl | rfl | rfl | rfl <;> rfl)
  have HLo0 : Hid (OwnG 102 12 flLi V7.drew w0.heap.size (.slice a2 li.length n2) li) := Lib.hid (by have q := HMC.out.sm.li m (by have := HM1.out; omega); rw [HZE.out] at q; exact q)
  have HLo := Lib.hid (own_top HLo0.out)
  have HTB := Lib.hid (topB_le HLo0.out HMC.out.st.bel.size)
  have HNG : Hid (sb ≠ g1 ∧ b5 ≠ g1) := Lib.hid ⟨fun e => HMC.out.sm.zo.apart HMC.out.sm.blk (by decide) rfl e.symm, fun e => HMC.out.sm.zo.apart HMC.out.bx (by decide) rfl e.symm⟩
  clear hd hzo hzz hcell l00
  have hm00 : (0 : Int) ≤ (m : Int) := Int.natCast_nonneg _
  have hwm : IntKind.i64.wrap (m : Int) = (m : Int) := by rw [IntKind.wrap_i64]; omega
  have hlm : (m : Int) < (m : Int) + 1 := by omega
  refine wp_region_held_drew (S := fun w' => w'.cell? ⟨sb, 1, none⟩ = some (.slice (some ⟨g1, 0, none⟩) (m + 1) zc) ∧ w'.cell? ⟨b5, 0, none⟩ = some (.int .i64 of) ∧ w'.cell? ⟨b5, 1, none⟩ = some (.string RU) ∧ w'.cell? ⟨b5, 2, none⟩ = some (.int .i64 sv) ∧ w'.cell? ⟨b5, 3, none⟩ = some (.string FM) ∧ w'.cell? ⟨b5, 4, none⟩ = some (.bool true) ∧ w'.cell? ⟨b5, 5, none⟩ = some (.int .i64 0) ∧ w'.cell? ⟨b5, 6, none⟩ = some (.int .i64 0) ∧ w'.cell? ⟨b5, 7, none⟩ = some (.int .i64 0) ∧ w'.cell? ⟨b5, 8, none⟩ = some (.int .i64 0) ∧ w'.cell? ⟨b5, 9, none⟩ = some (.int .i64 0) ∧ w'.cell? ⟨b5, 10, none⟩ = some (.int .i64 0) ∧ w'.cell? ⟨b5, 11, none⟩ = some (.int .i64 0)) (by kernel_rfl) ?_ (fun hHeld => ?_)
  ·exact HS1.out
  refine wpAnyH_take (i := 0) (v := ?v5) rfl (by kernel_rfl) (by kernel_rfl) (by kernel_rfl) (fun _ _ _ h => h) (Or.inl ⟨by rfl, ?hy5⟩) (by assumption) ?rest5
  case hy5 =>
   intro w hSw
   try dsimp only at hSw
   go_simp
   try with_reducible rfl
  case rest5 =>
  refine wpAnyH_take (i := 1) (v := ?v6) rfl (by kernel_rfl) (by kernel_rfl) (by kernel_rfl) (fun _ _ _ h => h) (Or.inl ⟨by rfl, ?hy6⟩) (by assumption) ?rest6
  case hy6 =>
   intro w hSw
   try dsimp only at hSw
   go_simp
   try with_reducible rfl
  case rest6 =>
  refine wpAnyH_take (i := 2) (v := ?v7) rfl (by kernel_rfl) (by kernel_rfl) (by kernel_rfl) (fun _ _ _ h => h) (Or.inl ⟨by rfl, ?hy7⟩) (by assumption) ?rest7
  case hy7 =>
   intro w hSw
   try dsimp only at hSw
   go_simp
   try with_reducible rfl
  case rest7 =>
  refine wpAnyH_take (i := 3) (v := ?v8) rfl (by kernel_rfl) (by kernel_rfl) (by kernel_rfl) (fun _ _ _ h => h) (Or.inl ⟨by rfl, ?hy8⟩) (by assumption) ?rest8
  case hy8 =>
   intro w hSw
   try dsimp only at hSw
   go_simp
   try with_reducible rfl
  case rest8 =>
  refine wpAnyH_take (i := 4) (v := ?v9) rfl (by kernel_rfl) (by kernel_rfl) (by kernel_rfl) (fun _ _ _ h => h) (Or.inl ⟨by rfl, ?hy9⟩) (by assumption) ?rest9
  case hy9 =>
   intro w hSw
   try dsimp only at hSw
   go_simp
   try with_reducible rfl
  case rest9 =>
  refine wpAnyH_take (i := 5) (v := ?v10) rfl (by kernel_rfl) (by kernel_rfl) (by kernel_rfl) (fun _ _ _ h => h) (Or.inl ⟨by rfl, ?hy10⟩) (by assumption) ?rest10
  case hy10 =>
   intro w hSw
   try dsimp only at hSw
   go_simp
   try with_reducible rfl
  case rest10 =>
  refine wpAnyH_take (i := 6) (v := ?v11) rfl (by kernel_rfl) (by kernel_rfl) (by kernel_rfl) (fun _ _ _ h => h) (Or.inl ⟨by rfl, ?hy11⟩) (by assumption) ?rest11
  case hy11 =>
   intro w hSw
   try dsimp only at hSw
   go_simp
   try with_reducible rfl
  case rest11 =>
  refine wpAnyH_take (i := 7) (v := ?v12) rfl (by kernel_rfl) (by kernel_rfl) (by kernel_rfl) (fun _ _ _ h => h) (Or.inl ⟨by rfl, ?hy12⟩) (by assumption) ?rest12
  case hy12 =>
   intro w hSw
   try dsimp only at hSw
   go_simp
   try with_reducible rfl
  case rest12 =>
  refine wpAnyH_take (i := 8) (v := ?v13) rfl (by kernel_rfl) (by kernel_rfl) (by kernel_rfl) (fun _ _ _ h => h) (Or.inl ⟨by rfl, ?hy13⟩) (by assumption) ?rest13
  case hy13 =>
   intro w hSw
   try dsimp only at hSw
   go_simp
   try with_reducible rfl
  case rest13 =>
  refine wpAnyH_take (i := 9) (v := ?v14) rfl (by kernel_rfl) (by kernel_rfl) (by kernel_rfl) (fun _ _ _ h => h) (Or.inl ⟨by rfl, ?hy14⟩) (by assumption) ?rest14
  case hy14 =>
   intro w hSw
   try dsimp only at hSw
   go_simp
   try with_reducible rfl
  case rest14 =>
  refine wpAnyH_take (i := 10) (v := ?v15) rfl (by kernel_rfl) (by kernel_rfl) (by kernel_rfl) (fun _ _ _ h => h) (Or.inl ⟨by rfl, ?hy15⟩) (by assumption) ?rest15
  case hy15 =>
   intro w hSw
   try dsimp only at hSw
   go_simp
   try with_reducible rfl
  case rest15 =>
  refine wpAnyH_take (i := 11) (v := ?v16) rfl (by kernel_rfl) (by kernel_rfl) (by kernel_rfl) (fun _ _ _ h => h) (Or.inl ⟨by rfl, ?hy16⟩) (by assumption) ?rest16
  case hy16 =>
   intro w hSw
   try dsimp only at hSw
   go_simp
   try with_reducible rfl
  case rest16 =>
  refine wpAnyH_take (i := 12) (v := ?v17) rfl (by kernel_rfl) (by kernel_rfl) (by kernel_rfl) (fun _ _ _ h => h) (Or.inl ⟨by rfl, ?hy17⟩) (by assumption) ?rest17
  case hy17 =>
   intro w hSw
   try dsimp only at hSw
   go_simp
   try with_reducible rfl
  case rest17 =>
  refine wpAnyH_take (i := 13) (v := ?v18) rfl (by kernel_rfl) (by kernel_rfl) (by kernel_rfl) (fun _ _ _ h => h) (Or.inl ⟨by rfl, ?hy18⟩) (by assumption) ?rest18
  case hy18 =>
   intro w hSw
   try dsimp only at hSw
   go_simp
   try with_reducible rfl
  case rest18 =>
  refine wpAnyH_take (i := 15) (v := ?v19) rfl (by kernel_rfl) (by kernel_rfl) (by kernel_rfl) (fun _ _ _ h => h) (Or.inl ⟨by rfl, ?hy19⟩) (by assumption) ?rest19
  case hy19 =>
   intro w hSw
   try dsimp only at hSw
   go_simp
   try with_reducible rfl
  case rest19 =>
  refine wpAnyH_ready (rs := [14, 16]) (by kernel_rfl) (by simp) ?_
  refine AllReadyH.cons rfl (fun K hK => ?_) ?_
  ·go_simp
   refine hK.out _ _ ?_ (fun hHeld => ?_)
   ·exact (by first | exact HS1.out | exact HSA.out _ | exact HSB.out _)
   clear hK K
   refine wpAnyH_ready (rs := [16]) (by kernel_rfl) (by simp) ?_
   refine AllReadyH.cons rfl (fun K hK => ?_) AllReadyH.nil
   go_simp
   refine hK.out _ _ ?_ (fun hHeld => ?_)
   ·exact (by first | exact HS1.out | exact HSA.out _ | exact HSB.out _)
   clear hK K
   refine wpAnyH_ready (rs := [17]) (by kernel_rfl) (by simp) ?_
   refine AllReadyH.cons rfl (fun K hK => ?_) AllReadyH.nil
   refine step_app_G (z := (⟨of, bsO RU, sv, bsO FM, true, un0⟩ : LiT)) (w0 := w0) (B := topB (.slice a2 li.length n2) V7.drew) flLi_len (by decide) Tryz.underlying43 Tryz.infoLi rfl (by decide) rfl (.tmp 109) (.tmp 111) rfl rfl HLo.out HTB.out.1 HTB.out.2 HMC.out.st.bel HO.out rfl (by simp) HLL.out (by simp [flLi, un0, on0]) ?_; intro v1 w3 o1 b1 k1 z1; obtain ⟨pv, qv, hv0⟩ := o1.form; have hv : v1 = .slice pv (li.length + 1) qv := (by simpa using hv0); subst hv; clear hv0; have HFIN := Lib.hid (lin_fin HM1.out HZE.out HMC.out.st HMC.out.sm HLo0.out o1 b1 k1 HTB.out.1); have d0 := HFIN.out.2.2.1; have d1 := HFIN.out.2.2.2; have HB3 := Lib.hid (And.intro (HMC.out.sm.blk.same (k1 sb HMC.out.sm.blk.lt fun q => HLo0.out.apart HMC.out.sm.blk (by decide) q rfl)) (HMC.out.bx.same (k1 b5 HMC.out.bx.lt fun q => HBS.out.li m (by have := HM1.out; omega) b5 (by rw [HZE.out]; exact q) rfl))); have HS3 := Lib.hid (li_cells (w := w3) HB3.out.1 HB3.out.2); have HS4 : Hid (∀ u, LiCells sb g1 m zc b5 #[.int .i64 of, .string RU, .int .i64 sv, .string FM, .bool true, .int .i64 0, .int .i64 0, .int .i64 0, .int .i64 0, .int .i64 0, .int .i64 0, .int .i64 0] (w3.setCell ⟨g1, m * 2 + 1, none⟩ u)) := (Lib.hid fun u => li_cells (HB3.out.1.same (set_far_heap _ _ _ _ HNG.out.1)) (HB3.out.2.same (set_far_heap _ _ _ _ HNG.out.2))); clear o1 b1 k1 z1
   refine hK.out _ _ ?_ (fun hHeld => ?_)
   ·exact HS3.out
   clear hK K
   refine wpAnyH_take (i := 18) (v := ?v1) rfl (by kernel_rfl) (by kernel_rfl) (by kernel_rfl) (fun _ _ _ h => h) (Or.inl ⟨by rfl, ?hy1⟩) (by assumption) ?rest1
   case hy1 =>
    intro w hSw
    try dsimp only at hSw
    go_simp
    try with_reducible rfl
   case rest1 =>
   refine wpAnyH_take (i := 19) (v := ?v2) rfl (by kernel_rfl) (by kernel_rfl) (by kernel_rfl) (fun _ _ _ h => h) (Or.inl ⟨by rfl, ?hy2⟩) (by assumption) ?rest2
   case hy2 =>
    intro w hSw
    try dsimp only at hSw
    go_simp
    try with_reducible rfl
   case rest2 =>
   refine wpAnyH_ready (rs := [20]) (by kernel_rfl) (by simp) ?_
   refine AllReadyH.cons rfl (fun K hK => ?_) AllReadyH.nil
   go_simp
   refine hK.out _ _ ?_ (fun hHeld => ?_)
   ·exact HS4.out _
   clear hK K
   refine wpAnyH_done (by kernel_rfl) ?_ _
   go_wp2_with fail
   go_end0
   exact (by rw [HRF.out]; exact ⟨rfl, HFIN.out.2.1, HN5.out, _, _, _, _, HFIN.out.1⟩)
  refine AllReadyH.cons rfl (fun K hK => ?_) ?_
  ·go_simp
   refine hK.out _ _ ?_ (fun hHeld => ?_)
   ·exact (by first | exact HS1.out | exact HSA.out _ | exact HSB.out _)
   clear hK K
   refine wpAnyH_ready (rs := [14]) (by kernel_rfl) (by simp) ?_
   refine AllReadyH.cons rfl (fun K hK => ?_) AllReadyH.nil
   go_simp
   refine hK.out _ _ ?_ (fun hHeld => ?_)
   ·exact (by first | exact HS1.out | exact HSA.out _ | exact HSB.out _)
   clear hK K
   refine wpAnyH_ready (rs := [17]) (by kernel_rfl) (by simp) ?_
   refine AllReadyH.cons rfl (fun K hK => ?_) AllReadyH.nil
   refine step_app_G (z := (⟨of, bsO RU, sv, bsO FM, true, un0⟩ : LiT)) (w0 := w0) (B := topB (.slice a2 li.length n2) V7.drew) flLi_len (by decide) Tryz.underlying43 Tryz.infoLi rfl (by decide) rfl (.tmp 109) (.tmp 111) rfl rfl HLo.out HTB.out.1 HTB.out.2 HMC.out.st.bel HO.out rfl (by simp) HLL.out (by simp [flLi, un0, on0]) ?_; intro v1 w3 o1 b1 k1 z1; obtain ⟨pv, qv, hv0⟩ := o1.form; have hv : v1 = .slice pv (li.length + 1) qv := (by simpa using hv0); subst hv; clear hv0; have HFIN := Lib.hid (lin_fin HM1.out HZE.out HMC.out.st HMC.out.sm HLo0.out o1 b1 k1 HTB.out.1); have d0 := HFIN.out.2.2.1; have d1 := HFIN.out.2.2.2; have HB3 := Lib.hid (And.intro (HMC.out.sm.blk.same (k1 sb HMC.out.sm.blk.lt fun q => HLo0.out.apart HMC.out.sm.blk (by decide) q rfl)) (HMC.out.bx.same (k1 b5 HMC.out.bx.lt fun q => HBS.out.li m (by have := HM1.out; omega) b5 (by rw [HZE.out]; exact q) rfl))); have HS3 := Lib.hid (li_cells (w := w3) HB3.out.1 HB3.out.2); have HS4 : Hid (∀ u, LiCells sb g1 m zc b5 #[.int .i64 of, .string RU, .int .i64 sv, .string FM, .bool true, .int .i64 0, .int .i64 0, .int .i64 0, .int .i64 0, .int .i64 0, .int .i64 0, .int .i64 0] (w3.setCell ⟨g1, m * 2 + 1, none⟩ u)) := (Lib.hid fun u => li_cells (HB3.out.1.same (set_far_heap _ _ _ _ HNG.out.1)) (HB3.out.2.same (set_far_heap _ _ _ _ HNG.out.2))); clear o1 b1 k1 z1
   refine hK.out _ _ ?_ (fun hHeld => ?_)
   ·exact HS3.out
   clear hK K
   refine wpAnyH_take (i := 18) (v := ?v3) rfl (by kernel_rfl) (by kernel_rfl) (by kernel_rfl) (fun _ _ _ h => h) (Or.inl ⟨by rfl, ?hy3⟩) (by assumption) ?rest3
   case hy3 =>
    intro w hSw
    try dsimp only at hSw
    go_simp
    try with_reducible rfl
   case rest3 =>
   refine wpAnyH_take (i := 19) (v := ?v4) rfl (by kernel_rfl) (by kernel_rfl) (by kernel_rfl) (fun _ _ _ h => h) (Or.inl ⟨by rfl, ?hy4⟩) (by assumption) ?rest4
   case hy4 =>
    intro w hSw
    try dsimp only at hSw
    go_simp
    try with_reducible rfl
   case rest4 =>
   refine wpAnyH_ready (rs := [20]) (by kernel_rfl) (by simp) ?_
   refine AllReadyH.cons rfl (fun K hK => ?_) AllReadyH.nil
   go_simp
   refine hK.out _ _ ?_ (fun hHeld => ?_)
   ·exact HS4.out _
   clear hK K
   refine wpAnyH_done (by kernel_rfl) ?_ _
   go_wp2_with fail
   go_end0
   exact (by rw [HRF.out]; exact ⟨rfl, HFIN.out.2.1, HN5.out, _, _, _, _, HFIN.out.1⟩)
  exact AllReadyH.nil
 ·have g4 : (s5.n == ws.length) = false := by simpa using hla
  rw [g4] at c4 HV7
  have HR5 : Hid (liE ws of (bsO RU, sv) (bsO FM) s5 = R) := Lib.hid (by
   rw [← HR4.out]
   show _ = (if (s5.n == ws.length) = true then SM.ret _ else _ : SM LiT) s5
   rw [g4]
   rfl)
  clear hla g4 HR4
  obtain ⟨r, hr⟩ : ∃ r, checkS ws untB s5 = r := ⟨_, rfl⟩
  have HCU := Lib.hid (check_until HC.out HG.out s5 V7 HV7.out.st)
  rw [hr] at HCU
  obtain ⟨tu, s6⟩ := r
  obtain ⟨r, hr2⟩ : ∃ r, yearS ws s6 = r := ⟨_, rfl⟩
  have HYR : Hid (∀ W, RSat w0 rb wv ws s6 W → Calls Tryz.prog 118 #[.pointer (some ⟨rb, 0, none⟩)] W (MPost w0 rb wv ws intV r W)) := Lib.hid (by rw [← hr2]; exact fun W hW => ryear_any HC.out HG.out s6 W hW)
  obtain ⟨yr, s7⟩ := r
  obtain ⟨r, hr3⟩ : ∃ r, whenS ws s7 = r := ⟨_, rfl⟩
  have HWN : Hid (∀ W, RSat w0 rb wv ws s7 W → Calls Tryz.prog 120 #[.pointer (some ⟨rb, 0, none⟩)] W (MPost w0 rb wv ws whenV r W)) := Lib.hid (by rw [← hr3]; exact fun W hW => when_any HC.out HG.out s7 W hW)
  obtain ⟨⟨mo, ⟨k, v, d⟩, at_, ck⟩, s8⟩ := r
  have HRF : Hid (R = (⟨of, bsO RU, sv, bsO FM, false, ⟨yr, mo, ⟨k, v, d⟩, at_, ck⟩⟩, s8)) := Lib.hid (by
   rw [← HR5.out]
   have e1 : liE ws of (bsO RU, sv) (bsO FM) s5 = (SM.bind (yearS ws) fun y => SM.bind (whenS ws) fun w => SM.ret (⟨of, bsO RU, sv, bsO FM, false, ⟨y, w.1, w.2.1, w.2.2.1, w.2.2.2⟩⟩ : LiT)) (checkS ws untB s5).2 := rfl
   rw [e1, hr]
   have e2 : (SM.bind (yearS ws) fun y => SM.bind (whenS ws) fun w => SM.ret (⟨of, bsO RU, sv, bsO FM, false, ⟨y, w.1, w.2.1, w.2.2.1, w.2.2.2⟩⟩ : LiT)) s6 = (SM.bind (whenS ws) fun w => SM.ret (⟨of, bsO RU, sv, bsO FM, false, ⟨(yearS ws s6).1, w.1, w.2.1, w.2.2.1, w.2.2.2⟩⟩ : LiT)) (yearS ws s6).2 := rfl
   rw [e2, hr2]
   have e3 : (SM.bind (whenS ws) fun w => SM.ret (⟨of, bsO RU, sv, bsO FM, false, ⟨yr, w.1, w.2.1, w.2.2.1, w.2.2.2⟩⟩ : LiT)) s7 = ((⟨of, bsO RU, sv, bsO FM, false, ⟨yr, (whenS ws s7).1.1, (whenS ws s7).1.2.1, (whenS ws s7).1.2.2.1, (whenS ws s7).1.2.2.2⟩⟩ : LiT), (whenS ws s7).2) := rfl
   rw [e3, hr3])
  have HCU2 : Hid (Calls Tryz.prog 117 #[.pointer (some ⟨rb, 0, none⟩), .func (.func 128) #[] #[]] V7 fun e w' => e = .returned (strV tu) ∧ RSat w0 rb wv ws s6 w' ∧ 1 ≤ s6.n ∧ V7.grownBy w' (some rb)) := HCU
  have HYR2 : Hid (∀ W, RSat w0 rb wv ws s6 W → Calls Tryz.prog 118 #[.pointer (some ⟨rb, 0, none⟩)] W fun e w' => e = .returned (.int .i64 yr) ∧ RSat w0 rb wv ws s7 w' ∧ 1 ≤ s7.n ∧ W.grownBy w' (some rb)) := HYR
  have HWN2 : Hid (∀ W, RSat w0 rb wv ws s7 W → Calls Tryz.prog 120 #[.pointer (some ⟨rb, 0, none⟩)] W fun e w' => e = .returned (.tuple #[.int .i64 mo, .agg #[.int .i64 k, .int .i64 v, .int .i64 d], .int .i64 at_, .int .i64 ck]) ∧ RSat w0 rb wv ws s8 w' ∧ 1 ≤ s8.n ∧ W.grownBy w' (some rb)) := HWN
  clear HCU HYR HWN hr hr2 hr3 HR5
  go_upto_region 18 with (first | (go_at_call 117; refine HCU2.out.mono ?_; rintro e w8 ⟨rfl, hs8, hn8, hg8⟩; have HV8 := Lib.hid (HV7.out.meth HBS.out hs8 hg8); clear hs8 hn8 hg8) | (go_at_call 118; refine (HYR2.out _ HV8.out.st).mono ?_; rintro e w9 ⟨rfl, hs9, hn9, hg9⟩; obtain ⟨V9, hV9⟩ : ∃ V, w9 = V := ⟨_, rfl⟩; rw [hV9] at hs9 hg9 ⊢; clear hV9; have HV9 := Lib.hid (HV8.out.meth HBS.out hs9 hg9); clear hs9 hn9 hg9; have c5 := HV9.out.bx.cell (j := 5) rfl; have f5 := HV9.out.bx.frz 5) | fail)
  obtain ⟨VA, hVA⟩ : ∃ V, V9.setCell ⟨b5, 5, none⟩ (.int .i64 yr) = V := ⟨_, rfl⟩
  have HVA : Hid (BxM w0 rb wv ws sb sr rv (.slice (some ⟨g1, 0, none⟩) (m + 1) zc) lv Z b5 102 #[.int .i64 of, .string RU, .int .i64 sv, .string FM, .bool false, .int .i64 yr, .int .i64 0, .int .i64 0, .int .i64 0, .int .i64 0, .int .i64 0, .int .i64 0] s7 VA) := Lib.hid (by rw [← hVA]; exact HV9.out.set HBS.out 5 _)
  try rw [hVA]
  clear hVA HV9 HV8 c5 f5 c4 HV7 HCU2 HYR2
  go_upto_region 19 with (first | (go_at_call 120; refine (HWN2.out _ HVA.out.st).mono ?_; rintro e w5 ⟨rfl, hs5, hn5, hg5⟩; obtain ⟨VB, hVB⟩ : ∃ V, w5 = V := ⟨_, rfl⟩; rw [hVB] at hs5 hg5 ⊢; clear hVB; have HN8 := Lib.hid hn5; have HVB := Lib.hid (HVA.out.meth HBS.out hs5 hg5); clear hs5 hn5 hg5; have c6 := HVB.out.bx.cell (j := 6) rfl; have c7 := HVB.out.bx.cell (j := 7) rfl; have c8 := HVB.out.bx.cell (j := 8) rfl; have c9 := HVB.out.bx.cell (j := 9) rfl; have c10 := HVB.out.bx.cell (j := 10) rfl; have c11 := HVB.out.bx.cell (j := 11) rfl; have f6 := HVB.out.bx.frz 6; have f7 := HVB.out.bx.frz 7; have f8 := HVB.out.bx.frz 8; have f9 := HVB.out.bx.frz 9; have f10 := HVB.out.bx.frz 10; have f11 := HVB.out.bx.frz 11) | fail)
  obtain ⟨VC, hVC⟩ : ∃ V, (((((VB.setCell ⟨b5, 6, none⟩ (.int .i64 mo)).setCell ⟨b5, 7, none⟩ (.int .i64 k)).setCell ⟨b5, 8, none⟩ (.int .i64 v)).setCell ⟨b5, 9, none⟩ (.int .i64 d)).setCell ⟨b5, 10, none⟩ (.int .i64 at_)).setCell ⟨b5, 11, none⟩ (.int .i64 ck) = V := ⟨_, rfl⟩
  have HVC : Hid (BxM w0 rb wv ws sb sr rv (.slice (some ⟨g1, 0, none⟩) (m + 1) zc) lv Z b5 102 #[.int .i64 of, .string RU, .int .i64 sv, .string FM, .bool false, .int .i64 yr, .int .i64 mo, .int .i64 k, .int .i64 v, .int .i64 d, .int .i64 at_, .int .i64 ck] s8 VC) := Lib.hid (by
   rw [← hVC]
   exact (((((HVB.out.set HBS.out 6 _).set HBS.out 7 _).set HBS.out 8 _).set HBS.out 9 _).set HBS.out 10 _).set HBS.out 11 _)
  try rw [hVC]
  clear hVC HVB HVA HWN2 c6 c7 c8 c9 c10 c11 f6 f7 f8 f9 f10 f11
  have hd : Below VC.heap.size VC VC.drew := (Below.refl _ _).drew
  have HMC := Lib.hid (HVC.out.below hd)
  have hzo := HVC.out.sm.zo
  have hzz : OwnG 45 2 flZk VC w0.heap.size (.slice (some ⟨g1, 0, none⟩) Z.length zc) Z := by rw [HM1.out]; exact hzo
  have hcell := hzz.cell flZk_len zk0 (i := m) (j := 1) (u := .slice a2 li.length n2) (by have := HM1.out; omega) (by decide) (by rw [HZE.out]; rfl)
  have l00 : VC.cell? ⟨g1, m * 2 + 1, none⟩ = some (.slice a2 li.length n2) := hcell.1
  have l0 : VC.drew.cell? ⟨g1, m * 2 + 1, none⟩ = some (.slice a2 li.length n2) := keepCell hd l00
  have lA : ∀ O, (VC.alloc O).cell? ⟨g1, m * 2 + 1, none⟩ = some (.slice a2 li.length n2) := fun O => keepCell ((Below.refl _ _).alloc (Nat.le_refl _) _) l00
  have lB : ∀ O, (VC.alloc O).drew.cell? ⟨g1, m * 2 + 1, none⟩ = some (.slice a2 li.length n2) := fun O => keepCell (((Below.refl _ _).alloc (Nat.le_refl _) _).drew) l00
  have HS0 := Lib.hid (li_cells (w := VC) (c0 := .int .i64 of) HVC.out.sm.blk HVC.out.bx)
  have HS1 := Lib.hid (li_cells (w := VC.drew) (c0 := .int .i64 of) HMC.out.sm.blk HMC.out.bx)
  have HSA : Hid (∀ O, LiCells sb g1 m zc b5 #[.int .i64 of, .string RU, .int .i64 sv, .string FM, .bool false, .int .i64 yr, .int .i64 mo, .int .i64 k, .int .i64 v, .int .i64 d, .int .i64 at_, .int .i64 ck] (VC.alloc O)) := Lib.hid fun O => li_cells (HVC.out.sm.blk.below ((Below.refl _ _).alloc (Nat.le_refl _) _)) (HVC.out.bx.below ((Below.refl _ _).alloc (Nat.le_refl _) _))
  have HSB : Hid (∀ O, LiCells sb g1 m zc b5 #[.int .i64 of, .string RU, .int .i64 sv, .string FM, .bool false, .int .i64 yr, .int .i64 mo, .int .i64 k, .int .i64 v, .int .i64 d, .int .i64 at_, .int .i64 ck] (VC.alloc O).drew) := Lib.hid fun O => li_cells (HVC.out.sm.blk.below (((Below.refl _ _).alloc (Nat.le_refl _) _).drew)) (HVC.out.bx.below (((Below.refl _ _).alloc (Nat.le_refl _) _).drew))
  have HO : Hid (∀ u ∈ flLi (⟨of, bsO RU, sv, bsO FM, false, ⟨yr, mo, ⟨k, v, d⟩, at_, ck⟩⟩ : LiT), u.oneCell' = true) := Lib.hid (by intro u hu; simp [flLi] at hu; rcases hu with rfl | rfl | rfl | rfl | rfl | rfl | rfl | rfl | rfl | rfl | rfl | rfl <;> rfl)
  have HLo0 : Hid (OwnG 102 12 flLi VC.drew w0.heap.size (.slice a2 li.length n2) li) := Lib.hid (by have q := HMC.out.sm.li m (by have := HM1.out; omega); rw [HZE.out] at q; exact q)
  have HLo := Lib.hid (own_top HLo0.out)
  have HTB := Lib.hid (topB_le HLo0.out HMC.out.st.bel.size)
  have HNG : Hid (sb ≠ g1 ∧ b5 ≠ g1) := Lib.hid ⟨fun e => HMC.out.sm.zo.apart HMC.out.sm.blk (by decide) rfl e.symm, fun e => HMC.out.sm.zo.apart HMC.out.bx (by decide) rfl e.symm⟩
  clear hd hzo hzz hcell l00
  have hm00 : (0 : Int) ≤ (m : Int) := Int.natCast_nonneg _
  have hwm : IntKind.i64.wrap (m : Int) = (m : Int) := by rw [IntKind.wrap_i64]; omega
  have hlm : (m : Int) < (m : Int) + 1 := by omega
  refine wp_region_held_drew (S := fun w' => w'.cell? ⟨sb, 1, none⟩ = some (.slice (some ⟨g1, 0, none⟩) (m + 1) zc) ∧ w'.cell? ⟨b5, 0, none⟩ = some (.int .i64 of) ∧ w'.cell? ⟨b5, 1, none⟩ = some (.string RU) ∧ w'.cell? ⟨b5, 2, none⟩ = some (.int .i64 sv) ∧ w'.cell? ⟨b5, 3, none⟩ = some (.string FM) ∧ w'.cell? ⟨b5, 4, none⟩ = some (.bool false) ∧ w'.cell? ⟨b5, 5, none⟩ = some (.int .i64 yr) ∧ w'.cell? ⟨b5, 6, none⟩ = some (.int .i64 mo) ∧ w'.cell? ⟨b5, 7, none⟩ = some (.int .i64 k) ∧ w'.cell? ⟨b5, 8, none⟩ = some (.int .i64 v) ∧ w'.cell? ⟨b5, 9, none⟩ = some (.int .i64 d) ∧ w'.cell? ⟨b5, 10, none⟩ = some (.int .i64 at_) ∧ w'.cell? ⟨b5, 11, none⟩ = some (.int .i64 ck)) (by kernel_rfl) ?_ (fun hHeld => ?_)
  ·exact HS1.out
  refine wpAnyH_take (i := 0) (v := ?v24) rfl (by kernel_rfl) (by kernel_rfl) (by kernel_rfl) (fun _ _ _ h => h) (Or.inl ⟨by rfl, ?hy24⟩) (by assumption) ?rest24
  case hy24 =>
   intro w hSw
   try dsimp only at hSw
   go_simp
   try with_reducible rfl
  case rest24 =>
  refine wpAnyH_take (i := 1) (v := ?v25) rfl (by kernel_rfl) (by kernel_rfl) (by kernel_rfl) (fun _ _ _ h => h) (Or.inl ⟨by rfl, ?hy25⟩) (by assumption) ?rest25
  case hy25 =>
   intro w hSw
   try dsimp only at hSw
   go_simp
   try with_reducible rfl
  case rest25 =>
  refine wpAnyH_take (i := 2) (v := ?v26) rfl (by kernel_rfl) (by kernel_rfl) (by kernel_rfl) (fun _ _ _ h => h) (Or.inl ⟨by rfl, ?hy26⟩) (by assumption) ?rest26
  case hy26 =>
   intro w hSw
   try dsimp only at hSw
   go_simp
   try with_reducible rfl
  case rest26 =>
  refine wpAnyH_take (i := 3) (v := ?v27) rfl (by kernel_rfl) (by kernel_rfl) (by kernel_rfl) (fun _ _ _ h => h) (Or.inl ⟨by rfl, ?hy27⟩) (by assumption) ?rest27
  case hy27 =>
   intro w hSw
   try dsimp only at hSw
   go_simp
   try with_reducible rfl
  case rest27 =>
  refine wpAnyH_take (i := 4) (v := ?v28) rfl (by kernel_rfl) (by kernel_rfl) (by kernel_rfl) (fun _ _ _ h => h) (Or.inl ⟨by rfl, ?hy28⟩) (by assumption) ?rest28
  case hy28 =>
   intro w hSw
   try dsimp only at hSw
   go_simp
   try with_reducible rfl
  case rest28 =>
  refine wpAnyH_take (i := 5) (v := ?v29) rfl (by kernel_rfl) (by kernel_rfl) (by kernel_rfl) (fun _ _ _ h => h) (Or.inl ⟨by rfl, ?hy29⟩) (by assumption) ?rest29
  case hy29 =>
   intro w hSw
   try dsimp only at hSw
   go_simp
   try with_reducible rfl
  case rest29 =>
  refine wpAnyH_take (i := 6) (v := ?v30) rfl (by kernel_rfl) (by kernel_rfl) (by kernel_rfl) (fun _ _ _ h => h) (Or.inl ⟨by rfl, ?hy30⟩) (by assumption) ?rest30
  case hy30 =>
   intro w hSw
   try dsimp only at hSw
   go_simp
   try with_reducible rfl
  case rest30 =>
  refine wpAnyH_take (i := 7) (v := ?v31) rfl (by kernel_rfl) (by kernel_rfl) (by kernel_rfl) (fun _ _ _ h => h) (Or.inl ⟨by rfl, ?hy31⟩) (by assumption) ?rest31
  case hy31 =>
   intro w hSw
   try dsimp only at hSw
   go_simp
   try with_reducible rfl
  case rest31 =>
  refine wpAnyH_take (i := 8) (v := ?v32) rfl (by kernel_rfl) (by kernel_rfl) (by kernel_rfl) (fun _ _ _ h => h) (Or.inl ⟨by rfl, ?hy32⟩) (by assumption) ?rest32
  case hy32 =>
   intro w hSw
   try dsimp only at hSw
   go_simp
   try with_reducible rfl
  case rest32 =>
  refine wpAnyH_take (i := 9) (v := ?v33) rfl (by kernel_rfl) (by kernel_rfl) (by kernel_rfl) (fun _ _ _ h => h) (Or.inl ⟨by rfl, ?hy33⟩) (by assumption) ?rest33
  case hy33 =>
   intro w hSw
   try dsimp only at hSw
   go_simp
   try with_reducible rfl
  case rest33 =>
  refine wpAnyH_take (i := 10) (v := ?v34) rfl (by kernel_rfl) (by kernel_rfl) (by kernel_rfl) (fun _ _ _ h => h) (Or.inl ⟨by rfl, ?hy34⟩) (by assumption) ?rest34
  case hy34 =>
   intro w hSw
   try dsimp only at hSw
   go_simp
   try with_reducible rfl
  case rest34 =>
  refine wpAnyH_take (i := 11) (v := ?v35) rfl (by kernel_rfl) (by kernel_rfl) (by kernel_rfl) (fun _ _ _ h => h) (Or.inl ⟨by rfl, ?hy35⟩) (by assumption) ?rest35
  case hy35 =>
   intro w hSw
   try dsimp only at hSw
   go_simp
   try with_reducible rfl
  case rest35 =>
  refine wpAnyH_take (i := 12) (v := ?v36) rfl (by kernel_rfl) (by kernel_rfl) (by kernel_rfl) (fun _ _ _ h => h) (Or.inl ⟨by rfl, ?hy36⟩) (by assumption) ?rest36
  case hy36 =>
   intro w hSw
   try dsimp only at hSw
   go_simp
   try with_reducible rfl
  case rest36 =>
  refine wpAnyH_take (i := 13) (v := ?v37) rfl (by kernel_rfl) (by kernel_rfl) (by kernel_rfl) (fun _ _ _ h => h) (Or.inl ⟨by rfl, ?hy37⟩) (by assumption) ?rest37
  case hy37 =>
   intro w hSw
   try dsimp only at hSw
   go_simp
   try with_reducible rfl
  case rest37 =>
  refine wpAnyH_take (i := 15) (v := ?v38) rfl (by kernel_rfl) (by kernel_rfl) (by kernel_rfl) (fun _ _ _ h => h) (Or.inl ⟨by rfl, ?hy38⟩) (by assumption) ?rest38
  case hy38 =>
   intro w hSw
   try dsimp only at hSw
   go_simp
   try with_reducible rfl
  case rest38 =>
  refine wpAnyH_ready (rs := [14, 16]) (by kernel_rfl) (by simp) ?_
  refine AllReadyH.cons rfl (fun K hK => ?_) ?_
  ·go_simp
   refine hK.out _ _ ?_ (fun hHeld => ?_)
   ·exact (by first | exact HS1.out | exact HSA.out _ | exact HSB.out _)
   clear hK K
   refine wpAnyH_ready (rs := [16]) (by kernel_rfl) (by simp) ?_
   refine AllReadyH.cons rfl (fun K hK => ?_) AllReadyH.nil
   go_simp
   refine hK.out _ _ ?_ (fun hHeld => ?_)
   ·exact (by first | exact HS1.out | exact HSA.out _ | exact HSB.out _)
   clear hK K
   refine wpAnyH_ready (rs := [17]) (by kernel_rfl) (by simp) ?_
   refine AllReadyH.cons rfl (fun K hK => ?_) AllReadyH.nil
   refine step_app_G (z := (⟨of, bsO RU, sv, bsO FM, false, ⟨yr, mo, ⟨k, v, d⟩, at_, ck⟩⟩ : LiT)) (w0 := w0) (B := topB (.slice a2 li.length n2) VC.drew) flLi_len (by decide) Tryz.underlying43 Tryz.infoLi rfl (by decide) rfl (.tmp 109) (.tmp 111) rfl rfl HLo.out HTB.out.1 HTB.out.2 HMC.out.st.bel HO.out rfl (by simp) HLL.out (by simp [flLi]) ?_; intro v1 w3 o1 b1 k1 z1; obtain ⟨pv, qv, hv0⟩ := o1.form; have hv : v1 = .slice pv (li.length + 1) qv := (by simpa using hv0); subst hv; clear hv0; have HFIN := Lib.hid (lin_fin HM1.out HZE.out HMC.out.st HMC.out.sm HLo0.out o1 b1 k1 HTB.out.1); have d0 := HFIN.out.2.2.1; have d1 := HFIN.out.2.2.2; have HB3 := Lib.hid (And.intro (HMC.out.sm.blk.same (k1 sb HMC.out.sm.blk.lt fun q => HLo0.out.apart HMC.out.sm.blk (by decide) q rfl)) (HMC.out.bx.same (k1 b5 HMC.out.bx.lt fun q => HBS.out.li m (by have := HM1.out; omega) b5 (by rw [HZE.out]; exact q) rfl))); have HS3 := Lib.hid (li_cells (w := w3) HB3.out.1 HB3.out.2); have HS4 : Hid (∀ u, LiCells sb g1 m zc b5 #[.int .i64 of, .string RU, .int .i64 sv, .string FM, .bool false, .int .i64 yr, .int .i64 mo, .int .i64 k, .int .i64 v, .int .i64 d, .int .i64 at_, .int .i64 ck] (w3.setCell ⟨g1, m * 2 + 1, none⟩ u)) := (Lib.hid fun u => li_cells (HB3.out.1.same (set_far_heap _ _ _ _ HNG.out.1)) (HB3.out.2.same (set_far_heap _ _ _ _ HNG.out.2))); clear o1 b1 k1 z1
   refine hK.out _ _ ?_ (fun hHeld => ?_)
   ·exact HS3.out
   clear hK K
   refine wpAnyH_take (i := 18) (v := ?v20) rfl (by kernel_rfl) (by kernel_rfl) (by kernel_rfl) (fun _ _ _ h => h) (Or.inl ⟨by rfl, ?hy20⟩) (by assumption) ?rest20
   case hy20 =>
    intro w hSw
    try dsimp only at hSw
    go_simp
    try with_reducible rfl
   case rest20 =>
   refine wpAnyH_take (i := 19) (v := ?v21) rfl (by kernel_rfl) (by kernel_rfl) (by kernel_rfl) (fun _ _ _ h => h) (Or.inl ⟨by rfl, ?hy21⟩) (by assumption) ?rest21
   case hy21 =>
    intro w hSw
    try dsimp only at hSw
    go_simp
    try with_reducible rfl
   case rest21 =>
   refine wpAnyH_ready (rs := [20]) (by kernel_rfl) (by simp) ?_
   refine AllReadyH.cons rfl (fun K hK => ?_) AllReadyH.nil
   go_simp
   refine hK.out _ _ ?_ (fun hHeld => ?_)
   ·exact HS4.out _
   clear hK K
   refine wpAnyH_done (by kernel_rfl) ?_ _
   go_wp2_with fail
   go_end0
   exact (by rw [HRF.out]; exact ⟨rfl, HFIN.out.2.1, HN8.out, _, _, _, _, HFIN.out.1⟩)
  refine AllReadyH.cons rfl (fun K hK => ?_) ?_
  ·go_simp
   refine hK.out _ _ ?_ (fun hHeld => ?_)
   ·exact (by first | exact HS1.out | exact HSA.out _ | exact HSB.out _)
   clear hK K
   refine wpAnyH_ready (rs := [14]) (by kernel_rfl) (by simp) ?_
   refine AllReadyH.cons rfl (fun K hK => ?_) AllReadyH.nil
   go_simp
   refine hK.out _ _ ?_ (fun hHeld => ?_)
   ·exact (by first | exact HS1.out | exact HSA.out _ | exact HSB.out _)
   clear hK K
   refine wpAnyH_ready (rs := [17]) (by kernel_rfl) (by simp) ?_
   refine AllReadyH.cons rfl (fun K hK => ?_) AllReadyH.nil
   refine step_app_G (z := (⟨of, bsO RU, sv, bsO FM, false, ⟨yr, mo, ⟨k, v, d⟩, at_, ck⟩⟩ : LiT)) (w0 := w0) (B := topB (.slice a2 li.length n2) VC.drew) flLi_len (by decide) Tryz.underlying43 Tryz.infoLi rfl (by decide) rfl (.tmp 109) (.tmp 111) rfl rfl HLo.out HTB.out.1 HTB.out.2 HMC.out.st.bel HO.out rfl (by simp) HLL.out (by simp [flLi]) ?_; intro v1 w3 o1 b1 k1 z1; obtain ⟨pv, qv, hv0⟩ := o1.form; have hv : v1 = .slice pv (li.length + 1) qv := (by simpa using hv0); subst hv; clear hv0; have HFIN := Lib.hid (lin_fin HM1.out HZE.out HMC.out.st HMC.out.sm HLo0.out o1 b1 k1 HTB.out.1); have d0 := HFIN.out.2.2.1; have d1 := HFIN.out.2.2.2; have HB3 := Lib.hid (And.intro (HMC.out.sm.blk.same (k1 sb HMC.out.sm.blk.lt fun q => HLo0.out.apart HMC.out.sm.blk (by decide) q rfl)) (HMC.out.bx.same (k1 b5 HMC.out.bx.lt fun q => HBS.out.li m (by have := HM1.out; omega) b5 (by rw [HZE.out]; exact q) rfl))); have HS3 := Lib.hid (li_cells (w := w3) HB3.out.1 HB3.out.2); have HS4 : Hid (∀ u, LiCells sb g1 m zc b5 #[.int .i64 of, .string RU, .int .i64 sv, .string FM, .bool false, .int .i64 yr, .int .i64 mo, .int .i64 k, .int .i64 v, .int .i64 d, .int .i64 at_, .int .i64 ck] (w3.setCell ⟨g1, m * 2 + 1, none⟩ u)) := (Lib.hid fun u => li_cells (HB3.out.1.same (set_far_heap _ _ _ _ HNG.out.1)) (HB3.out.2.same (set_far_heap _ _ _ _ HNG.out.2))); clear o1 b1 k1 z1
   refine hK.out _ _ ?_ (fun hHeld => ?_)
   ·exact HS3.out
   clear hK K
   refine wpAnyH_take (i := 18) (v := ?v22) rfl (by kernel_rfl) (by kernel_rfl) (by kernel_rfl) (fun _ _ _ h => h) (Or.inl ⟨by rfl, ?hy22⟩) (by assumption) ?rest22
   case hy22 =>
    intro w hSw
    try dsimp only at hSw
    go_simp
    try with_reducible rfl
   case rest22 =>
   refine wpAnyH_take (i := 19) (v := ?v23) rfl (by kernel_rfl) (by kernel_rfl) (by kernel_rfl) (fun _ _ _ h => h) (Or.inl ⟨by rfl, ?hy23⟩) (by assumption) ?rest23
   case hy23 =>
    intro w hSw
    try dsimp only at hSw
    go_simp
    try with_reducible rfl
   case rest23 =>
   refine wpAnyH_ready (rs := [20]) (by kernel_rfl) (by simp) ?_
   refine AllReadyH.cons rfl (fun K hK => ?_) AllReadyH.nil
   go_simp
   refine hK.out _ _ ?_ (fun hHeld => ?_)
   ·exact HS4.out _
   clear hK K
   refine wpAnyH_done (by kernel_rfl) ?_ _
   go_wp2_with fail
   go_end0
   exact (by rw [HRF.out]; exact ⟨rfl, HFIN.out.2.1, HN8.out, _, _, _, _, HFIN.out.1⟩)
  exact AllReadyH.nil
end Go.Proofs.YtlbglinpgjlbkaaGreatDoor
