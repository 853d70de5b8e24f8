import Derived.Test.YtlbglinpgjlbkaaGreatDoorWkQo
import Derived.Deep.CutBlock
/- Zone texts: the program's reader: rule. Printed by gen_r6.py. -/
namespace Go.Proofs.YtlbglinpgjlbkaaGreatDoor
open Go.RowKit Wk

structure BxS (w0 : World) (rb sb : Nat) (rv zv lv : Value) (Z : List ZkT) (b : Nat) : Prop where
 ne : b ≠ rb
 lo : w0.heap.size ≤ b
 ns : b ≠ sb
 r : ∀ g, rv.ownBlock = some g → g ≠ b
 z : ∀ g, zv.ownBlock = some g → g ≠ b
 l : ∀ g, lv.ownBlock = some g → g ≠ b
 li : ∀ i, i < Z.length → ∀ g, (Z.getD i zk0).2.ownBlock = some g → g ≠ b
structure BxM (w0 : World) (rb : Nat) (wv : Value) (ws : List Tok) (sb : Nat) (sr : SrT) (rv zv lv : Value) (Z : List ZkT) (b : Nat) (T : TypeId) (cs : Array Value) (s : RSt) (w : World) : Prop where
 st : RSat w0 rb wv ws s w
 sm : SrcM w0.heap.size sb sr rv zv lv Z w
 bx : Blk w b cs T
theorem BxS.new {w0 w : World} {rb sb : Nat} {wv : Value} {ws : List Tok} {s : RSt} {sr : SrT} {rv zv lv : Value} {Z : List ZkT} (h : RSat w0 rb wv ws s w) (hm : SrcM w0.heap.size sb sr rv zv lv Z w) : BxS w0 rb sb rv zv lv Z w.heap.size :=
 ⟨Nat.ne_of_gt h.blk.lt, h.bel.size, Nat.ne_of_gt hm.blk.lt, fun g q => Nat.ne_of_lt (World.ownsRow.lt hm.ru g q).2, fun g q => Nat.ne_of_lt (World.ownsRow.lt hm.zo g q).2, fun g q => Nat.ne_of_lt (World.ownsRow.lt hm.lk g q).2, fun i hi g q => Nat.ne_of_lt (World.ownsRow.lt (hm.li i hi) g q).2⟩
theorem BxM.new {w0 w : World} {rb sb : Nat} {wv : Value} {ws : List Tok} {s : RSt} {sr : SrT} {rv zv lv : Value} {Z : List ZkT} (h : RSat w0 rb wv ws s w) (hm : SrcM w0.heap.size sb sr rv zv lv Z w) (T : TypeId) (cs : Array Value) : BxM w0 rb wv ws sb sr rv zv lv Z w.heap.size T cs s (w.alloc (.cells cs T)) :=
 ⟨h.below ((Below.refl _ _).alloc (Nat.le_refl _) _), hm.below ((Below.refl _ _).alloc (Nat.le_refl _) _), Blk.new _ _ _⟩
section
variable {w0 : World} {rb : Nat} {wv : Value} {ws : List Tok} {sb : Nat} {sr : SrT} {rv zv lv : Value} {Z : List ZkT} {b : Nat} {T : TypeId} {cs : Array Value} {s s' : RSt} {w w' : World}
theorem BxM.below (h : BxM w0 rb wv ws sb sr rv zv lv Z b T cs s w) (hb : Below w.heap.size w w') : BxM w0 rb wv ws sb sr rv zv lv Z b T cs s w' := ⟨h.st.below hb, h.sm.below hb, h.bx.below hb⟩
theorem BxM.meth (h : BxM w0 rb wv ws sb sr rv zv lv Z b T cs s w) (hS : BxS w0 rb sb rv zv lv Z b) (hs : RSat w0 rb wv ws s' w') (hg : w.grownBy w' (some rb)) : BxM w0 rb wv ws sb sr rv zv lv Z b T cs s' w' :=
 ⟨hs, h.sm.grown h.st.blk hg (by decide) (by decide) (by decide) (by decide) (by decide), h.bx.grown hg hS.ne⟩
theorem BxM.set (h : BxM w0 rb wv ws sb sr rv zv lv Z b T cs s w) (hS : BxS w0 rb sb rv zv lv Z b) (j : Nat) (u : Value) : BxM w0 rb wv ws sb sr rv zv lv Z b T (cs.setIfInBounds j u) s (w.setCell ⟨b, j, none⟩ u) :=
 ⟨h.st.other (grown_set _ _ _ _) hS.ne hS.lo, h.sm.keep (set_far_heap _ _ _ _ (Ne.symm hS.ns)) (fun g q => set_far_heap _ _ _ _ (hS.r g q)) (fun g q => set_far_heap _ _ _ _ (hS.z g q)) (fun g q => set_far_heap _ _ _ _ (hS.l g q)) (fun i hi g q => set_far_heap _ _ _ _ (hS.li i hi g q)), h.bx.set u⟩
end
def ruC (ws : List Tok) (nm : Bs) (fr to_ : Int) (wn : Int × OnT × Int × Int) (sv : Int) : SM RuT := SM.bind (checkS ws leB) fun le => SM.ret ⟨nm, fr, to_, wn.1, wn.2.1, wn.2.2.1, wn.2.2.2, sv, if le = [45] then [] else le⟩
def ruV2 (ws : List Tok) (nm : Bs) (fr to_ : Int) (wn : Int × OnT × Int × Int) : SM RuT := SM.bind (limS ws savB) fun sv => ruC ws nm fr to_ wn sv
def ruA (ws : List Tok) (nm : Bs) (fr to_ : Int) : SM RuT := SM.bind (whenS ws) fun wn => ruV2 ws nm fr to_ wn
def ruY (ws : List Tok) (nm : Bs) (fr : Int) : SM RuT := SM.bind (toS ws fr) fun to_ => ruA ws nm fr to_
theorem ruleS_eq (ws : List Tok) : ruleS ws = SM.bind (checkS ws nameB) fun nm => SM.bind (yearS ws) fun fr => ruY ws nm fr := rfl

set_option maxRecDepth 100000 in
set_option maxHeartbeats 8000000 in
theorem rrule_any {w0 : World} {rb sb : Nat} {wv : Value} {ws : List Tok} (hc : RCtx w0 rb wv ws) (hg : Glob w0) (s : RSt) (sr : SrT) (rv zv lv : Value) (Z : List ZkT) (w : World) (h : RSat w0 rb wv ws s w) (hm : SrcM w0.heap.size sb sr rv zv lv Z w) (hl : sr.ru.length < 1000000) :
  Calls Tryz.prog 43 #[.pointer (some ⟨rb, 0, none⟩), .pointer (some ⟨sb, 0, none⟩)] w (LPost w0 rb wv ws sb (ruleS ws s).2 { sr with ru := sr.ru ++ [(ruleS ws s).1] }) := by
 have HC := Lib.hid hc
 have HG := Lib.hid hg
 obtain ⟨R, hR⟩ : ∃ R, ruleS ws s = R := ⟨_, rfl⟩
 rw [hR]
 rw [ruleS_eq] at hR
 have HCN := Lib.hid (check_name hc hg s w h)
 obtain ⟨r, hr⟩ : ∃ r, checkS ws nameB s = r := ⟨_, rfl⟩
 have hR : (SM.bind (yearS ws) fun fr => ruY ws (checkS ws nameB s).1 fr) (checkS ws nameB s).2 = R := hR
 rw [hr] at HCN hR
 clear hr
 obtain ⟨t, s1⟩ := r
 obtain ⟨NM, rfl⟩ := bs_of t
 simp only at hR
 obtain ⟨r, hr⟩ : ∃ r, yearS ws s1 = r := ⟨_, rfl⟩
 have HYR : Hid (∀ W, RSat w0 rb wv ws s1 W → Calls Tryz.prog 118 #[.pointer (some ⟨rb, 0, none⟩)] W (MPost w0 rb wv ws intV r W)) := Lib.hid (by rw [← hr]; exact fun W hW => ryear_any HC.out HG.out s1 W hW)
 have hR : ruY ws (bsO NM) (yearS ws s1).1 (yearS ws s1).2 = R := hR
 rw [hr] at hR
 clear hr
 obtain ⟨fr, s2⟩ := r
 simp only at hR
 have HR2 := Lib.hid hR
 clear hR
 have HCN2 : Hid (Calls Tryz.prog 117 #[.pointer (some ⟨rb, 0, none⟩), .func (.func 65) #[] #[]] w fun e w' => e = .returned (.string NM) ∧ RSat w0 rb wv ws s1 w' ∧ 1 ≤ s1.n ∧ w.grownBy w' (some rb)) := HCN
 have HYR2 : Hid (∀ W, RSat w0 rb wv ws s1 W → Calls Tryz.prog 118 #[.pointer (some ⟨rb, 0, none⟩)] W fun e w' => e = .returned (.int .i64 fr) ∧ RSat w0 rb wv ws s2 w' ∧ 1 ≤ s2.n ∧ W.grownBy w' (some rb)) := HYR
 have HRB := Lib.hid h.blk
 have HM := Lib.hid hm
 clear HCN HYR h hm hc hg
 go_enter Tryz.func43, Tryz.ntmps43
 go_upto_region 1 with (first | (go_at_call 117; refine HCN2.out.mono ?_; rintro e w1 ⟨rfl, hs1, hn1, hg1⟩; have HS1 := Lib.hid hs1; have HM1 := Lib.hid (HM.out.grown HRB.out hg1 (by decide) (by decide) (by decide) (by decide) (by decide)); clear hs1 hn1 hg1) | (go_at_call 118; refine (HYR2.out _ HS1.out).mono ?_; rintro e w2 ⟨rfl, hs2, hn2, hg2⟩; obtain ⟨W, hW⟩ : ∃ W, w2 = W := ⟨_, rfl⟩; rw [hW] at hs2 hg2 ⊢; clear hW; have HS2 := Lib.hid hs2; have HN2 := Lib.hid hn2; have HM2 := Lib.hid (HM1.out.grown HS1.out.blk hg2 (by decide) (by decide) (by decide) (by decide) (by decide)); clear hs2 hn2 hg2) | fail)
 obtain ⟨b4, hb4⟩ : ∃ b, W.heap.size = b := ⟨_, rfl⟩
 obtain ⟨X, hX⟩ : ∃ X, W.alloc (.cells #[.string NM, .int .i64 fr, .int .i64 0, .int .i64 0, .int .i64 0, .int .i64 0, .int .i64 0, .int .i64 0, .int .i64 0, .int .i64 0, .string ⟨#[]⟩] 41) = X := ⟨_, rfl⟩
 have HBS : Hid (BxS w0 rb sb rv zv lv Z b4) := Lib.hid (by rw [← hb4]; exact BxS.new HS2.out HM2.out)
 have HXM : Hid (BxM w0 rb wv ws sb sr rv zv lv Z b4 41 #[.string NM, .int .i64 fr, .int .i64 0, .int .i64 0, .int .i64 0, .int .i64 0, .int .i64 0, .int .i64 0, .int .i64 0, .int .i64 0, .string ⟨#[]⟩] s2 X) := Lib.hid (by rw [← hX, ← hb4]; exact BxM.new HS2.out HM2.out _ _)
 try rw [hX]
 try rw [hb4]
 clear hX hb4 HS1 HS2 HM HM1 HM2 HRB HCN2 HYR2
 obtain ⟨r, hr⟩ : ∃ r, wordS ws s2 = r := ⟨_, rfl⟩
 have HWD := Lib.hid (word_any HC.out s2 X HXM.out.st)
 have HN3 := Lib.hid (word_n ws s2 HC.out.ne HXM.out.st.hi)
 have HSZ := Lib.hid (word_sz HC.out s2)
 have HTO : Hid (toS ws fr s2 = (if r.1 = [111, 110, 108, 121] then SM.ret fr else if r.1 = [109, 97, 120] then SM.ret 9999 else SM.bind (errS ws (numM r.1 1 9999).2) fun _ => SM.bind (needS ws (decide (fr ≤ (numM r.1 1 9999).1)) 2) fun _ => SM.ret (numM r.1 1 9999).1) r.2) := Lib.hid (by rw [← hr]; rfl)
 rw [hr] at HWD HN3 HSZ
 clear hr
 obtain ⟨t, s3⟩ := r
 simp only at HN3 HSZ
 obtain ⟨TT, rfl⟩ := bs_of t
 go_upto_region 2 with (first | (go_at_call 47; refine HWD.out.mono ?_; rintro e w3 ⟨rfl, hs3, hg3⟩; obtain ⟨V, hV⟩ : ∃ V, w3 = V := ⟨_, rfl⟩; rw [hV] at hs3 hg3 ⊢; clear hV; have HVM := Lib.hid (HXM.out.meth HBS.out hs3 hg3); clear hs3 hg3) | fail)
 go_upto_block 0 with fail
 go_cut [6, 7] from 15 to 39 (fun _ _ wx => ∃ (to_ : Int) (s4 : RSt), Hid (toS ws fr s2 = (to_, s4)) ∧ Hid (1 ≤ s4.n) ∧ Hid (BxM w0 rb wv ws sb sr rv zv lv Z b4 41 #[.string NM, .int .i64 fr, .int .i64 to_, .int .i64 0, .int .i64 0, .int .i64 0, .int .i64 0, .int .i64 0, .int .i64 0, .int .i64 0, .string ⟨#[]⟩] s4 wx))
 case first =>
  have HBV := Lib.hid HVM.out.bx
  have c1 := HBV.out.cell (j := 1) rfl
  have c2 := HBV.out.cell (j := 2) rfl
  have f2 := HBV.out.frz 2
  by_cases ho : bsO TT = [111, 110, 108, 121]
  ·have g1 : (TT.toList == [111, 110, 108, 121]) = true := by rw [dash_eq, ho]; rfl
   have HT : Hid (toS ws fr s2 = (fr, s3)) := Lib.hid (by rw [HTO.out, if_pos ho]; rfl)
   have HQ := Lib.hid (HVM.out.set HBS.out 2 (.int .i64 fr))
   clear ho HTO
   go_wp2_with fail
   go_meet
   exact ⟨fr, s3, HT.out, HN3.out, HQ.out⟩
  have g1 : (TT.toList == [111, 110, 108, 121]) = false := by rw [dash_eq]; simpa using ho
  by_cases hx : bsO TT = [109, 97, 120]
  ·have g2 : (TT.toList == [109, 97, 120]) = true := by rw [dash_eq, hx]; rfl
   have HT : Hid (toS ws fr s2 = (9999, s3)) := Lib.hid (by rw [HTO.out, if_neg ho, if_pos hx]; rfl)
   have HQ := Lib.hid (HVM.out.set HBS.out 2 (.int .i64 9999))
   clear ho hx HTO
   go_wp2_with fail
   go_meet
   exact ⟨9999, s3, HT.out, HN3.out, HQ.out⟩
  have g2 : (TT.toList == [109, 97, 120]) = false := by rw [dash_eq]; simpa using hx
  obtain ⟨q, hq⟩ : ∃ q, numM (bsO TT) 1 9999 = q := ⟨_, rfl⟩
  have HNU : Hid (∀ W, Calls Tryz.prog 91 #[.string TT, .int .i64 1, .int .i64 9999] W fun e w' => e = .returned (.tuple #[.int .i64 q.1, .int .i64 q.2]) ∧ w' = W) := Lib.hid (by
   rw [← hq]
   exact fun W => number_any TT (by have := HSZ.out; rw [bs_len] at this; omega) 1 9999 (by decide) (by decide) W)
  have HT : Hid (toS ws fr s2 = (q.1, if decide (fr ≤ q.1) = true then failS ws q.2 s3 else failS ws 2 (failS ws q.2 s3))) := Lib.hid (by
   rw [HTO.out, if_neg ho, if_neg hx, hq]
   rfl)
  clear ho hx hq HTO
  obtain ⟨qn, qe⟩ := q
  have HF1 : Hid (∀ W, RSat w0 rb wv ws s3 W → Calls Tryz.prog 119 #[.pointer (some ⟨rb, 0, none⟩), .int .i64 qe] W fun e' w' => e' = .returned (.tuple #[]) ∧ RSat w0 rb wv ws (failS ws qe s3) w' ∧ W.grownBy w' (some rb)) := Lib.hid fun W hW => fail_any HC.out s3 qe W hW HN3.out
  have HN4 : Hid (1 ≤ (failS ws qe s3).n) := Lib.hid (by rw [fail_n]; exact HN3.out)
  obtain ⟨s4, h4⟩ : ∃ s4, failS ws qe s3 = s4 := ⟨_, rfl⟩
  rw [h4] at HF1 HN4
  have HT2 : Hid (toS ws fr s2 = (qn, if decide (fr ≤ qn) = true then s4 else failS ws 2 s4)) := Lib.hid (by rw [HT.out, ← h4])
  clear h4 HT
  go_upto_region 5 with (first | (go_at_call 91; refine (HNU.out _).mono ?_; rintro e w' ⟨rfl, hw⟩; rw [hw]; clear hw) | (go_at_call 119; refine (HF1.out _ HVM.out.st).mono ?_; rintro e w4 ⟨rfl, hs4, hg4⟩; obtain ⟨U, hU⟩ : ∃ V, w4 = V := ⟨_, rfl⟩; rw [hU] at hs4 hg4 ⊢; clear hU; have HUM := Lib.hid (HVM.out.meth HBS.out hs4 hg4); clear hs4 hg4) | fail)
  clear c1 c2 f2
  have HBU := Lib.hid HUM.out.bx
  have c1 := HBU.out.cell (j := 1) rfl
  have c2 := HBU.out.cell (j := 2) rfl
  have f2 := HBU.out.frz 2
  by_cases hlt : qn < fr
  ·have g3 : decide (qn < fr) = true := by simpa using hlt
   have HF2 := Lib.hid (fail_any HC.out s4 2 U HUM.out.st HN4.out)
   have HT3 : Hid (toS ws fr s2 = (qn, failS ws 2 s4)) := Lib.hid (by rw [HT2.out, if_neg (by simp; omega)])
   clear hlt
   go_wp2_with (first | (go_at_call 119; refine HF2.out.mono ?_; rintro e w5 ⟨rfl, hs5, hg5⟩; have HPM := Lib.hid (HUM.out.meth HBS.out hs5 hg5); have d2 := HPM.out.bx.cell (j := 2) rfl; have e2 := HPM.out.bx.frz 2; have HQ := Lib.hid (HPM.out.set HBS.out 2 (.int .i64 qn)); clear hs5 hg5) | fail)
   go_meet
   exact ⟨qn, _, HT3.out, by rw [fail_n]; exact HN4.out, HQ.out⟩
  ·have g3 : decide (qn < fr) = false := by simpa using hlt
   have HT3 : Hid (toS ws fr s2 = (qn, s4)) := Lib.hid (by rw [HT2.out, if_pos (by simp; omega)])
   have HQ := Lib.hid (HUM.out.set HBS.out 2 (.int .i64 qn))
   clear hlt
   go_wp2_with fail
   go_meet
   exact ⟨qn, s4, HT3.out, HN4.out, HQ.out⟩
 case rest =>
 obtain ⟨to_, s4, HT, HN4, HWM⟩ := hcut
 generalize wc = V4 at *
 have HR3 : Hid (ruA ws (bsO NM) fr to_ s4 = R) := Lib.hid (by
  have q : ruA ws (bsO NM) fr (toS ws fr s2).1 (toS ws fr s2).2 = R := HR2.out
  rw [HT.out] at q
  exact q)
 clear HT HR2 HVM HXM HWD HTO
 obtain ⟨r, hr⟩ : ∃ r, whenS ws s4 = r := ⟨_, rfl⟩
 have HWN := Lib.hid (when_any HC.out HG.out s4 V4 HWM.out.st)
 have HR4 : Hid (ruV2 ws (bsO NM) fr to_ r.1 r.2 = R) := Lib.hid (by rw [← hr]; exact HR3.out)
 rw [hr] at HWN
 clear hr HR3
 obtain ⟨⟨mo, ⟨k, v, d⟩, at_, ck⟩, s5⟩ := r
 have HWN2 : Hid (Calls Tryz.prog 120 #[.pointer (some ⟨rb, 0, none⟩)] V4 fun e w' => e = .returned (.tuple #[.int .i64 mo, .agg #[.int .i64 k, .int .i64 v, .int .i64 d], .int .i64 at_, .int .i64 ck]) ∧ RSat w0 rb wv ws s5 w' ∧ 1 ≤ s5.n ∧ V4.grownBy w' (some rb)) := HWN
 clear HWN
 go_upto_region 13 with (first | (go_at_call 120; refine HWN2.out.mono ?_; rintro e w5 ⟨rfl, hs5, hn5, hg5⟩; obtain ⟨V5, hV5⟩ : ∃ V, w5 = V := ⟨_, rfl⟩; rw [hV5] at hs5 hg5 ⊢; clear hV5; have HV5 := Lib.hid (HWM.out.meth HBS.out hs5 hg5); clear hs5 hg5; have HB5 := Lib.hid HV5.out.bx; have c3 := HB5.out.cell (j := 3) rfl; have c4 := HB5.out.cell (j := 4) rfl; have c5 := HB5.out.cell (j := 5) rfl; have c6 := HB5.out.cell (j := 6) rfl; have c7 := HB5.out.cell (j := 7) rfl; have c8 := HB5.out.cell (j := 8) rfl; have f3 := HB5.out.frz 3; have f4 := HB5.out.frz 4; have f5 := HB5.out.frz 5; have f6 := HB5.out.frz 6; have f7 := HB5.out.frz 7; have f8 := HB5.out.frz 8) | fail)
 obtain ⟨V6, hV6⟩ : ∃ V, (((((V5.setCell ⟨b4, 3, none⟩ (.int .i64 mo)).setCell ⟨b4, 4, none⟩ (.int .i64 k)).setCell ⟨b4, 5, none⟩ (.int .i64 v)).setCell ⟨b4, 6, none⟩ (.int .i64 d)).setCell ⟨b4, 7, none⟩ (.int .i64 at_)).setCell ⟨b4, 8, none⟩ (.int .i64 ck) = V := ⟨_, rfl⟩
 have HV6 : Hid (BxM w0 rb wv ws sb sr rv zv lv Z b4 41 #[.string NM, .int .i64 fr, .int .i64 to_, .int .i64 mo, .int .i64 k, .int .i64 v, .int .i64 d, .int .i64 at_, .int .i64 ck, .int .i64 0, .string ⟨#[]⟩] s5 V6) := Lib.hid (by
  rw [← hV6]
  exact (((((HV5.out.set HBS.out 3 _).set HBS.out 4 _).set HBS.out 5 _).set HBS.out 6 _).set HBS.out 7 _).set HBS.out 8 _)
 try rw [hV6]
 clear hV6 HV5 HB5 c3 c4 c5 c6 c7 c8 f3 f4 f5 f6 f7 f8 HWM HWN2
 obtain ⟨r, hr⟩ : ∃ r, limS ws savB s5 = r := ⟨_, rfl⟩
 have HLM := Lib.hid (limited_saving HC.out HG.out s5 V6 HV6.out.st)
 have HR5 : Hid (ruC ws (bsO NM) fr to_ (mo, ⟨k, v, d⟩, at_, ck) r.1 r.2 = R) := Lib.hid (by rw [← hr]; exact HR4.out)
 rw [hr] at HLM
 clear hr HR4
 obtain ⟨sv, s6⟩ := r
 have HLM2 : Hid (Calls Tryz.prog 121 #[.pointer (some ⟨rb, 0, none⟩), .func (.func 122) #[] #[]] V6 fun e w' => e = .returned (.int .i64 sv) ∧ RSat w0 rb wv ws s6 w' ∧ 1 ≤ s6.n ∧ V6.grownBy w' (some rb)) := HLM
 clear HLM
 go_upto_region 14 with (first | (go_at_call 121; refine HLM2.out.mono ?_; rintro e w7 ⟨rfl, hs7, hn7, hg7⟩; obtain ⟨V7, hV7⟩ : ∃ V, w7 = V := ⟨_, rfl⟩; rw [hV7] at hs7 hg7 ⊢; clear hV7; have HV7 := Lib.hid (HV6.out.meth HBS.out hs7 hg7); clear hs7 hg7; have c9 := HV7.out.bx.cell (j := 9) rfl; have f9 := HV7.out.bx.frz 9) | fail)
 obtain ⟨V8, hV8⟩ : ∃ V, V7.setCell ⟨b4, 9, none⟩ (.int .i64 sv) = V := ⟨_, rfl⟩
 have HV8 : Hid (BxM w0 rb wv ws sb sr rv zv lv Z b4 41 #[.string NM, .int .i64 fr, .int .i64 to_, .int .i64 mo, .int .i64 k, .int .i64 v, .int .i64 d, .int .i64 at_, .int .i64 ck, .int .i64 sv, .string ⟨#[]⟩] s6 V8) := Lib.hid (by
  rw [← hV8]
  exact HV7.out.set HBS.out 9 _)
 try rw [hV8]
 clear hV8 HV7 c9 f9 HV6 HLM2
 obtain ⟨r, hr⟩ : ∃ r, checkS ws leB s6 = r := ⟨_, rfl⟩
 have HCL := Lib.hid (check_letter HC.out HG.out s6 V8 HV8.out.st)
 have HRF : Hid (R = (⟨bsO NM, fr, to_, mo, ⟨k, v, d⟩, at_, ck, sv, if r.1 = [45] then [] else r.1⟩, r.2)) := Lib.hid (by rw [← HR5.out, ← hr]; rfl)
 rw [hr] at HCL
 clear hr HR5
 obtain ⟨t, s7⟩ := r
 obtain ⟨LE, rfl⟩ := bs_of t
 simp only at HRF
 have HCL2 : Hid (Calls Tryz.prog 117 #[.pointer (some ⟨rb, 0, none⟩), .func (.func 123) #[] #[]] V8 fun e w' => e = .returned (.string LE) ∧ RSat w0 rb wv ws s7 w' ∧ 1 ≤ s7.n ∧ V8.grownBy w' (some rb)) := HCL
 clear HCL
 go_upto_region 15 with (first | (go_at_call 117; refine HCL2.out.mono ?_; rintro e w9 ⟨rfl, hs9, hn9, hg9⟩; obtain ⟨V9, hV9⟩ : ∃ V, w9 = V := ⟨_, rfl⟩; rw [hV9] at hs9 hg9 ⊢; clear hV9; have HN7 := Lib.hid hn9; have HV9 := Lib.hid (HV8.out.meth HBS.out hs9 hg9); clear hs9 hn9 hg9; have c10 := HV9.out.bx.cell (j := 10) rfl; have f10 := HV9.out.bx.frz 10) | fail)
 obtain ⟨VA, hVA⟩ : ∃ V, V9.setCell ⟨b4, 10, none⟩ (.string LE) = V := ⟨_, rfl⟩
 have HVA : Hid (BxM w0 rb wv ws sb sr rv zv lv Z b4 41 #[.string NM, .int .i64 fr, .int .i64 to_, .int .i64 mo, .int .i64 k, .int .i64 v, .int .i64 d, .int .i64 at_, .int .i64 ck, .int .i64 sv, .string LE] s7 VA) := Lib.hid (by
  rw [← hVA]
  exact HV9.out.set HBS.out 10 _)
 try rw [hVA]
 clear hVA HV9 c10 f10 HV8 HCL2
 obtain ⟨ra, rc, rfl⟩ : ∃ a c, rv = .slice a sr.ru.length c := by
  obtain ⟨a, c, e⟩ := HVA.out.sm.ru.form
  exact ⟨a, c, e⟩
 have HSR : Hid (sb ≠ rb) := Lib.hid (by
  rintro rfl
  have h1 := HVA.out.st.blk
  have h2 := HVA.out.sm.blk
  unfold Blk at h1 h2
  rw [h2] at h1
  injection h1 with h1
  injection h1 with _ h1 _
  exact absurd h1 (by decide))
 have c10 := HVA.out.bx.cell (j := 10) rfl
 have f10 := HVA.out.bx.frz 10
 by_cases hle : bsO LE = [45]
 ·have g1 : (LE.toList == [45]) = true := by rw [dash_eq, hle]; rfl
  rw [if_pos hle] at HRF
  obtain ⟨VB, hVB⟩ : ∃ V, VA.setCell ⟨b4, 10, none⟩ (.string ⟨#[]⟩) = V := ⟨_, rfl⟩
  have HVB : Hid (BxM w0 rb wv ws sb sr (.slice ra sr.ru.length rc) zv lv Z b4 41 #[.string NM, .int .i64 fr, .int .i64 to_, .int .i64 mo, .int .i64 k, .int .i64 v, .int .i64 d, .int .i64 at_, .int .i64 ck, .int .i64 sv, .string ⟨#[]⟩] s7 VB) := Lib.hid (by
   rw [← hVB]
   exact HVA.out.set HBS.out 10 _)
  clear hle
  go_upto_region 17 with fail
  try rw [hVB]
  clear hVB c10 f10
  have hd : Below VB.heap.size VB VB.drew := (Below.refl _ _).drew
  have HMC := Lib.hid (HVB.out.below hd)
  have c0 : VB.drew.cell? ⟨sb, 0, none⟩ = some (.slice ra sr.ru.length rc) := HMC.out.sm.blk.cell (j := 0) rfl
  have c00 : VB.cell? ⟨sb, 0, none⟩ = some (.slice ra sr.ru.length rc) := HVB.out.sm.blk.cell (j := 0) rfl
  have cA : ∀ O, (VB.alloc O).cell? ⟨sb, 0, none⟩ = some (.slice ra sr.ru.length rc) := fun O => keepCell ((Below.refl _ _).alloc (Nat.le_refl _) _) c00
  have x0 : VB.drew.cell? ⟨b4, 0, none⟩ = some (.string NM) := HMC.out.bx.cell (j := 0) rfl
  have x1 : VB.drew.cell? ⟨b4, 1, none⟩ = some (.int .i64 fr) := HMC.out.bx.cell (j := 1) rfl
  have x2 : VB.drew.cell? ⟨b4, 2, none⟩ = some (.int .i64 to_) := HMC.out.bx.cell (j := 2) rfl
  have x3 : VB.drew.cell? ⟨b4, 3, none⟩ = some (.int .i64 mo) := HMC.out.bx.cell (j := 3) rfl
  have x4 : VB.drew.cell? ⟨b4, 4, none⟩ = some (.int .i64 k) := HMC.out.bx.cell (j := 4) rfl
  have x5 : VB.drew.cell? ⟨b4, 5, none⟩ = some (.int .i64 v) := HMC.out.bx.cell (j := 5) rfl
  have x6 : VB.drew.cell? ⟨b4, 6, none⟩ = some (.int .i64 d) := HMC.out.bx.cell (j := 6) rfl
  have x7 : VB.drew.cell? ⟨b4, 7, none⟩ = some (.int .i64 at_) := HMC.out.bx.cell (j := 7) rfl
  have x8 : VB.drew.cell? ⟨b4, 8, none⟩ = some (.int .i64 ck) := HMC.out.bx.cell (j := 8) rfl
  have x9 : VB.drew.cell? ⟨b4, 9, none⟩ = some (.int .i64 sv) := HMC.out.bx.cell (j := 9) rfl
  have x10 : VB.drew.cell? ⟨b4, 10, none⟩ = some (.string ⟨#[]⟩) := HMC.out.bx.cell (j := 10) rfl
  have HO : Hid (∀ u ∈ flRu (⟨bsO NM, fr, to_, mo, ⟨k, v, d⟩, at_, ck, sv, []⟩ : RuT), u.oneCell' = true) := Lib.hid (by intro u hu; simp [flRu] at hu; rcases hu with rfl | rfl | rfl | rfl | rfl | rfl | rfl | rfl | rfl | rfl | rfl <;> rfl)
  clear hd
  go_region_law (refine step_app_G (z := (⟨bsO NM, fr, to_, mo, ⟨k, v, d⟩, at_, ck, sv, []⟩ : RuT)) (w0 := w0) (B := w0.heap.size) flRu_len (by decide) Tryz.underlying23 Tryz.infoRu rfl (by decide) rfl (.tmp 65) (.tmp 67) rfl rfl HMC.out.sm.ru (Nat.le_refl _) HMC.out.st.bel.size HMC.out.st.bel HO.out rfl (by simp) hl (by simp [flRu]) ?_; intro v1 w3 o1 b1 k1 z1; obtain ⟨pv, qv, hv0⟩ := o1.form; have hv : v1 = .slice pv (sr.ru.length + 1) qv := (by simpa using hv0); subst hv; clear hv0; have HB3 := Lib.hid (HMC.out.sm.blk.same (k1 sb HMC.out.sm.blk.lt fun q => HMC.out.sm.ru.apart HMC.out.sm.blk (by decide) q rfl)); have d0 := HB3.out.cell (j := 0) rfl; have d1 := HB3.out.frz 0; have HFIN := Lib.hid (And.intro (HMC.out.sm.addR o1 k1) (HMC.out.st.turn (sb := sb) (j := 0) (v1 := .slice pv (sr.ru.length + 1) qv) b1 k1 (fun q => HMC.out.sm.ru.apart HMC.out.st.blk (by decide) q rfl) HSR.out HMC.out.sm.lo)); clear o1 b1 k1 z1)
  all_goals go_wp2_with fail
  all_goals go_end0
  all_goals exact (by rw [HRF.out]; exact ⟨rfl, HFIN.out.2, HN7.out, _, _, _, _, HFIN.out.1⟩)
 ·have g1 : (LE.toList == [45]) = false := by rw [dash_eq]; simpa using hle
  rw [if_neg hle] at HRF
  clear hle
  go_upto_region 17 with fail
  clear c10 f10
  have hd : Below VA.heap.size VA VA.drew := (Below.refl _ _).drew
  have HMC := Lib.hid (HVA.out.below hd)
  have c0 : VA.drew.cell? ⟨sb, 0, none⟩ = some (.slice ra sr.ru.length rc) := HMC.out.sm.blk.cell (j := 0) rfl
  have c00 : VA.cell? ⟨sb, 0, none⟩ = some (.slice ra sr.ru.length rc) := HVA.out.sm.blk.cell (j := 0) rfl
  have cA : ∀ O, (VA.alloc O).cell? ⟨sb, 0, none⟩ = some (.slice ra sr.ru.length rc) := fun O => keepCell ((Below.refl _ _).alloc (Nat.le_refl _) _) c00
  have x0 : VA.drew.cell? ⟨b4, 0, none⟩ = some (.string NM) := HMC.out.bx.cell (j := 0) rfl
  have x1 : VA.drew.cell? ⟨b4, 1, none⟩ = some (.int .i64 fr) := HMC.out.bx.cell (j := 1) rfl
  have x2 : VA.drew.cell? ⟨b4, 2, none⟩ = some (.int .i64 to_) := HMC.out.bx.cell (j := 2) rfl
  have x3 : VA.drew.cell? ⟨b4, 3, none⟩ = some (.int .i64 mo) := HMC.out.bx.cell (j := 3) rfl
  have x4 : VA.drew.cell? ⟨b4, 4, none⟩ = some (.int .i64 k) := HMC.out.bx.cell (j := 4) rfl
  have x5 : VA.drew.cell? ⟨b4, 5, none⟩ = some (.int .i64 v) := HMC.out.bx.cell (j := 5) rfl
  have x6 : VA.drew.cell? ⟨b4, 6, none⟩ = some (.int .i64 d) := HMC.out.bx.cell (j := 6) rfl
  have x7 : VA.drew.cell? ⟨b4, 7, none⟩ = some (.int .i64 at_) := HMC.out.bx.cell (j := 7) rfl
  have x8 : VA.drew.cell? ⟨b4, 8, none⟩ = some (.int .i64 ck) := HMC.out.bx.cell (j := 8) rfl
  have x9 : VA.drew.cell? ⟨b4, 9, none⟩ = some (.int .i64 sv) := HMC.out.bx.cell (j := 9) rfl
  have x10 : VA.drew.cell? ⟨b4, 10, none⟩ = some (.string LE) := HMC.out.bx.cell (j := 10) rfl
  have HO : Hid (∀ u ∈ flRu (⟨bsO NM, fr, to_, mo, ⟨k, v, d⟩, at_, ck, sv, bsO LE⟩ : RuT), u.oneCell' = true) := Lib.hid (by intro u hu; simp [flRu] at hu; rcases hu with rfl | rfl | rfl | rfl | rfl | rfl | rfl | rfl | rfl | rfl | rfl <;> rfl)
  clear hd
  go_region_law (refine step_app_G (z := (⟨bsO NM, fr, to_, mo, ⟨k, v, d⟩, at_, ck, sv, bsO LE⟩ : RuT)) (w0 := w0) (B := w0.heap.size) flRu_len (by decide) Tryz.underlying23 Tryz.infoRu rfl (by decide) rfl (.tmp 65) (.tmp 67) rfl rfl HMC.out.sm.ru (Nat.le_refl _) HMC.out.st.bel.size HMC.out.st.bel HO.out rfl (by simp) hl (by simp [flRu]) ?_; intro v1 w3 o1 b1 k1 z1; obtain ⟨pv, qv, hv0⟩ := o1.form; have hv : v1 = .slice pv (sr.ru.length + 1) qv := (by simpa using hv0); subst hv; clear hv0; have HB3 := Lib.hid (HMC.out.sm.blk.same (k1 sb HMC.out.sm.blk.lt fun q => HMC.out.sm.ru.apart HMC.out.sm.blk (by decide) q rfl)); have d0 := HB3.out.cell (j := 0) rfl; have d1 := HB3.out.frz 0; have HFIN := Lib.hid (And.intro (HMC.out.sm.addR o1 k1) (HMC.out.st.turn (sb := sb) (j := 0) (v1 := .slice pv (sr.ru.length + 1) qv) b1 k1 (fun q => HMC.out.sm.ru.apart HMC.out.st.blk (by decide) q rfl) HSR.out HMC.out.sm.lo)); clear o1 b1 k1 z1)
  all_goals go_wp2_with fail
  all_goals go_end0
  all_goals exact (by rw [HRF.out]; exact ⟨rfl, HFIN.out.2, HN7.out, _, _, _, _, HFIN.out.1⟩)
end Go.Proofs.YtlbglinpgjlbkaaGreatDoor
