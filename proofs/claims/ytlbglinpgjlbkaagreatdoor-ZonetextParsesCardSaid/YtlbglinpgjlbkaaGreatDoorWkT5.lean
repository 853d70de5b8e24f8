import Derived.Test.YtlbglinpgjlbkaaGreatDoorWkQs
import Derived.Deep.CutBlock
/- Zone texts: the reference's reader: rule, walked. Printed by gen_t4.py. -/
namespace Go.Proofs.YtlbglinpgjlbkaaGreatDoor
open Go.RowKit Wk

set_option maxRecDepth 100000 in
set_option maxHeartbeats 8000000 in
theorem ruleT_of {ws : List Tok} {s s1 s2 s3 s4 s5 s6 s7 s8 s9 s10 : RSt} {nm le : Bs} {fr to_ mo at_ ck sv : Int} {o : OnT} {t : Tok} (h1 : nameT ws s = (nm, s1)) (h2 : numberT ws 1 9999 s1 = (fr, s2)) (h3 : tosT ws fr s2 = (to_, s3)) (h4 : monthT ws s3 = (mo, s4)) (h5 : onsT ws mo s4 = (o, s5)) (h6 : clocksT ws s5 = ((at_, ck), s6)) (h7 : nextT ws s6 = (t, s7)) (h8 : offsT t 10800 60 s7 = (sv, s8)) (h9 : leT ws s8 = (le, s9)) (h10 : endT ws s9 = ((), s10)) :
  ruleT ws s = (⟨nm, fr, to_, mo, o, at_, ck, sv, le⟩, s10) := by
 unfold ruleT whensT SM.bind
 simp only [h1, h2, h3, h4, h5, h6, h7, h8, h9, h10, SM.ret]

set_option maxRecDepth 100000 in
set_option maxHeartbeats 8000000 in
theorem ruleR_any {w0 : World} {rb : Nat} {wv : Value} {ws : List Tok} (hc : RCtx w0 rb wv ws) (s : RSt) (w : World) (h : RTat w0 rb wv ws s w) :
  Calls Tryz.prog 54 #[.pointer (some ⟨rb, 0, none⟩)] w (TPost w0 rb wv ws ruV (ruleT ws s) w) := by
 have HC := Lib.hid hc
 have HH := Lib.hid h
 obtain ⟨⟨nm, s1⟩, h1⟩ : ∃ r, nameT ws s = r := ⟨_, rfl⟩
 obtain ⟨⟨fr, s2⟩, h2⟩ : ∃ r, numberT ws 1 9999 s1 = r := ⟨_, rfl⟩
 obtain ⟨⟨to_, s3⟩, h3⟩ : ∃ r, tosT ws fr s2 = r := ⟨_, rfl⟩
 obtain ⟨⟨mo, s4⟩, h4⟩ : ∃ r, monthT ws s3 = r := ⟨_, rfl⟩
 obtain ⟨⟨⟨k, v, d⟩, s5⟩, h5⟩ : ∃ r, onsT ws mo s4 = r := ⟨_, rfl⟩
 obtain ⟨⟨⟨at_, ck⟩, s6⟩, h6⟩ : ∃ r, clocksT ws s5 = r := ⟨_, rfl⟩
 obtain ⟨⟨⟨tx7, ln7, co7⟩, s7⟩, h7⟩ : ∃ r, nextT ws s6 = r := ⟨_, rfl⟩
 obtain ⟨⟨sv, s8⟩, h8⟩ : ∃ r, offsT ⟨tx7, ln7, co7⟩ 10800 60 s7 = r := ⟨_, rfl⟩
 obtain ⟨⟨le, s9⟩, h9⟩ : ∃ r, leT ws s8 = r := ⟨_, rfl⟩
 obtain ⟨⟨⟨⟩, s10⟩, h10⟩ : ∃ r, endT ws s9 = r := ⟨_, rfl⟩
 have HE := Lib.hid (ruleT_of h1 h2 h3 h4 h5 h6 h7 h8 h9 h10)
 rw [HE.out]
 have HFR : Hid ((1 ≤ fr ∧ fr ≤ 9999) ∨ fr = 0) := Lib.hid (by have q := toNum_wf ws s1; rw [h2] at q; exact q)
 have HS7 : Hid (tx7.length ≤ 4294967280) := Lib.hid (by have q := next_sz hc s6; rw [h7] at q; exact q)
 obtain ⟨NM, rfl⟩ := bs_of nm
 obtain ⟨T7, rfl⟩ := bs_of tx7
 obtain ⟨LE, rfl⟩ := bs_of le
 obtain ⟨⟨⟨tx3, ln3, co3⟩, s21⟩, hn3⟩ : ∃ r, nextT ws s2 = r := ⟨_, rfl⟩
 obtain ⟨T3, rfl⟩ := bs_of tx3
 have HZ3 : Hid (T3.size < 4294967281) := Lib.hid (by have q := next_sz hc s2; rw [hn3] at q; simp only at q; rw [bs_len] at q; omega)
 have HT3 : Hid ((if bsO T3 = [111, 110, 108, 121] then (fr, s21) else if bsO T3 = [109, 97, 120] then (9999, s21) else ((numM (bsO T3) fr 9999).1, if s21.e = 0 ∧ ((numM (bsO T3) fr 9999).2 == 0) = false then failT (ln3, co3) (numM (bsO T3) fr 9999).2 s21 else s21)) = (to_, s3)) := Lib.hid (by
  have q := h3
  rw [tosT_eq, hn3] at q
  exact q)
 obtain ⟨⟨⟨tx9, ln9, co9⟩, s81⟩, hn9⟩ : ∃ r, nextT ws s8 = r := ⟨_, rfl⟩
 obtain ⟨T9, rfl⟩ := bs_of tx9
 have HZ9 : Hid (T9.size < 4294967281) := Lib.hid (by have q := next_sz hc s8; rw [hn9] at q; simp only at q; rw [bs_len] at q; omega)
 have HT9 : Hid ((if bsO T9 = [45] then (([] : Bs), s81) else (bsO T9, if s81.e = 0 ∧ letterB (bsO T9) = false then failT (ln9, co9) 3 s81 else s81)) = (bsO LE, s9)) := Lib.hid (by
  have q := h9
  rw [leT_eq, hn9] at q
  exact q)
 have HC1 : Hid (∀ W, RTat w0 rb wv ws s W → Calls Tryz.prog 55 #[.pointer (some ⟨rb, 0, none⟩)] W fun e w' => e = .returned (.string NM) ∧ RTat w0 rb wv ws s1 w' ∧ W.grownBy w' (some rb)) := Lib.hid fun W hW => by
  have q := nameR_any HC.out s W hW
  rw [h1] at q
  exact q
 have HC2 : Hid (∀ W, RTat w0 rb wv ws s1 W → Calls Tryz.prog 131 #[.pointer (some ⟨rb, 0, none⟩), .int .i64 1, .int .i64 9999] W fun e w' => e = .returned (.int .i64 fr) ∧ RTat w0 rb wv ws s2 w' ∧ W.grownBy w' (some rb)) := Lib.hid fun W hW => by
  have q := numberR_any HC.out 1 9999 (by decide) (by decide) s1 W hW
  rw [h2] at q
  exact q
 have HC3 : Hid (∀ W, RTat w0 rb wv ws s2 W → Calls Tryz.prog 53 #[.pointer (some ⟨rb, 0, none⟩)] W fun e w' => e = .returned (.agg #[.string T3, .int .i64 ln3, .int .i64 co3]) ∧ RTat w0 rb wv ws s21 w' ∧ W.grownBy w' (some rb)) := Lib.hid fun W hW => by
  have q := nextR_any HC.out s2 W hW
  rw [hn3] at q
  exact q
 have HC4 : Hid (∀ W, RTat w0 rb wv ws s3 W → Calls Tryz.prog 133 #[.pointer (some ⟨rb, 0, none⟩)] W fun e w' => e = .returned (.int .i64 mo) ∧ RTat w0 rb wv ws s4 w' ∧ W.grownBy w' (some rb)) := Lib.hid fun W hW => by
  have q := monthR_any HC.out s3 W hW
  rw [h4] at q
  exact q
 have HC5 : Hid (∀ W, RTat w0 rb wv ws s4 W → Calls Tryz.prog 134 #[.pointer (some ⟨rb, 0, none⟩), .int .i64 mo] W fun e w' => e = .returned (.agg #[.int .i64 k, .int .i64 v, .int .i64 d]) ∧ RTat w0 rb wv ws s5 w' ∧ W.grownBy w' (some rb)) := Lib.hid fun W hW => by
  have q := onR_any HC.out mo s4 W hW
  rw [h5] at q
  exact q
 have HC6 : Hid (∀ W, RTat w0 rb wv ws s5 W → Calls Tryz.prog 135 #[.pointer (some ⟨rb, 0, none⟩)] W fun e w' => e = .returned (.tuple #[.int .i64 at_, .int .i64 ck]) ∧ RTat w0 rb wv ws s6 w' ∧ W.grownBy w' (some rb)) := Lib.hid fun W hW => by
  have q := clockR_any HC.out s5 W hW
  rw [h6] at q
  exact q
 have HC7 : Hid (∀ W, RTat w0 rb wv ws s6 W → Calls Tryz.prog 53 #[.pointer (some ⟨rb, 0, none⟩)] W fun e w' => e = .returned (.agg #[.string T7, .int .i64 ln7, .int .i64 co7]) ∧ RTat w0 rb wv ws s7 w' ∧ W.grownBy w' (some rb)) := Lib.hid fun W hW => by
  have q := nextR_any HC.out s6 W hW
  rw [h7] at q
  exact q
 have HC8 : Hid (∀ W, RTat w0 rb wv ws s7 W → Calls Tryz.prog 136 #[.pointer (some ⟨rb, 0, none⟩), .agg #[.string T7, .int .i64 ln7, .int .i64 co7], .int .i64 10800, .int .i64 60] W fun e w' => e = .returned (.int .i64 sv) ∧ RTat w0 rb wv ws s8 w' ∧ W.grownBy w' (some rb)) := Lib.hid fun W hW => by
  have q := offR_sv HC.out ⟨bsO T7, ln7, co7⟩ HS7.out s7 W hW
  rw [h8] at q
  exact q
 have HC9 : Hid (∀ W, RTat w0 rb wv ws s8 W → Calls Tryz.prog 53 #[.pointer (some ⟨rb, 0, none⟩)] W fun e w' => e = .returned (.agg #[.string T9, .int .i64 ln9, .int .i64 co9]) ∧ RTat w0 rb wv ws s81 w' ∧ W.grownBy w' (some rb)) := Lib.hid fun W hW => by
  have q := nextR_any HC.out s8 W hW
  rw [hn9] at q
  exact q
 have HC10 : Hid (∀ W, RTat w0 rb wv ws s9 W → Calls Tryz.prog 56 #[.pointer (some ⟨rb, 0, none⟩)] W fun e w' => e = .returned (.tuple #[]) ∧ RTat w0 rb wv ws s10 w' ∧ W.grownBy w' (some rb)) := Lib.hid fun W hW => by
  have q := endR_any HC.out s9 W hW
  rw [h10] at q
  exact q
 clear h1 h2 h3 h4 h5 h6 h7 h8 h9 h10 hn3 hn9 HE h hc
 go_enter Tryz.func54, Tryz.ntmps54
 go_upto_region 1 with fail
 obtain ⟨b2, hb2⟩ : ∃ b, w.heap.size = b := ⟨_, rfl⟩
 obtain ⟨U, hU⟩ : ∃ U, w.alloc (.cells #[.string ⟨#[]⟩, .int .i64 0, .int .i64 0, .int .i64 0, .int .i64 0, .int .i64 0, .int .i64 0, .int .i64 0, .int .i64 0, .int .i64 0, .string ⟨#[]⟩] 41) = U := ⟨_, rfl⟩
 have HU : Hid (TBx w0 rb wv ws s b2 #[.string ⟨#[]⟩, .int .i64 0, .int .i64 0, .int .i64 0, .int .i64 0, .int .i64 0, .int .i64 0, .int .i64 0, .int .i64 0, .int .i64 0, .string ⟨#[]⟩] 41 U) := Lib.hid (by rw [← hU, ← hb2]; exact TBx.new HH.out _ _)
 have HGU : Hid (w.grownBy U (some rb)) := Lib.hid (by rw [← hU]; exact below_grown ((Below.refl _ _).alloc (Nat.le_refl _) _) _)
 have HL2 : Hid (w0.heap.size ≤ b2 ∧ w.heap.size ≤ b2) := Lib.hid (by rw [← hb2]; exact ⟨HH.out.bel.size, Nat.le_refl _⟩)
 try rw [hU]
 try rw [hb2]
 clear hU hb2
 go_upto_region 2 with (first | (go_at_call 55; refine (HC1.out _ HU.out.st).mono ?_; rintro e w1 ⟨rfl, hs1, hg1⟩; obtain ⟨V1, hV⟩ : ∃ V, w1 = V := ⟨_, rfl⟩; rw [hV] at hs1 hg1 ⊢; clear hV; have HV1 := Lib.hid (HU.out.meth hs1 hg1); have HGV1 := Lib.hid (grown_trans HGU.out hg1); clear hs1 hg1) | (go_at_call 131; refine (HC2.out _ HV1.out.st).mono ?_; rintro e w1 ⟨rfl, hs1, hg1⟩; obtain ⟨V2, hV⟩ : ∃ V, w1 = V := ⟨_, rfl⟩; rw [hV] at hs1 hg1 ⊢; clear hV; have HV2 := Lib.hid (HV1.out.meth hs1 hg1); have HGV2 := Lib.hid (grown_trans HGV1.out hg1); clear hs1 hg1) | fail)
 obtain ⟨b3, hb3⟩ : ∃ b, V2.heap.size = b := ⟨_, rfl⟩
 obtain ⟨X, hX⟩ : ∃ X, V2.alloc (.cells #[.string NM, .int .i64 fr, .int .i64 0, .int .i64 0, .int .i64 0, .int .i64 0, .int .i64 0, .int .i64 0, .int .i64 0, .int .i64 0, .string ⟨#[]⟩] 41) = X := ⟨_, rfl⟩
 have HVX : Hid (Below V2.heap.size V2 X) := Lib.hid (by rw [← hX]; exact (Below.refl _ _).alloc (Nat.le_refl _) _)
 have HX3 : Hid (Blk X b3 #[.string NM, .int .i64 fr, .int .i64 0, .int .i64 0, .int .i64 0, .int .i64 0, .int .i64 0, .int .i64 0, .int .i64 0, .int .i64 0, .string ⟨#[]⟩] 41) := Lib.hid (by rw [← hX, ← hb3]; exact Blk.new _ _ _)
 have HX := Lib.hid (HV2.out.below HVX.out)
 have HGX : Hid (w.grownBy X (some rb)) := Lib.hid (grown_trans HGV2.out (below_grown HVX.out _))
 have HL3 : Hid (w0.heap.size ≤ b3 ∧ w.heap.size ≤ b3 ∧ b3 ≠ rb ∧ b2 ≠ b3) := Lib.hid (by rw [← hb3]; exact ⟨HV2.out.st.bel.size, HGV2.out.size, Nat.ne_of_gt HV2.out.st.blk.lt, Nat.ne_of_lt HV2.out.bx.lt⟩)
 try rw [hX]
 try rw [hb3]
 clear hX hb3
 go_upto_region 3 with (first | (go_at_call 53; refine (HC3.out _ HX.out.st).mono ?_; rintro e w1 ⟨rfl, hs1, hg1⟩; obtain ⟨V3, hV⟩ : ∃ V, w1 = V := ⟨_, rfl⟩; rw [hV] at hs1 hg1 ⊢; clear hV; have HV3 := Lib.hid (HX.out.meth hs1 hg1); have HG3 := Lib.hid hg1; clear hs1 hg1) | fail)
 obtain ⟨b4, hb4⟩ : ∃ b, V3.heap.size = b := ⟨_, rfl⟩
 obtain ⟨Y, hY⟩ : ∃ Y, V3.alloc (.cells #[.string T3, .int .i64 ln3, .int .i64 co3] 88) = Y := ⟨_, rfl⟩
 have HVY : Hid (Below V3.heap.size V3 Y) := Lib.hid (by rw [← hY]; exact (Below.refl _ _).alloc (Nat.le_refl _) _)
 have HY0 : Hid (B3 w0 rb wv ws w 41 b2 b3 b4 #[.string ⟨#[]⟩, .int .i64 0, .int .i64 0, .int .i64 0, .int .i64 0, .int .i64 0, .int .i64 0, .int .i64 0, .int .i64 0, .int .i64 0, .string ⟨#[]⟩] #[.string NM, .int .i64 fr, .int .i64 0, .int .i64 0, .int .i64 0, .int .i64 0, .int .i64 0, .int .i64 0, .int .i64 0, .int .i64 0, .string ⟨#[]⟩] #[.string T3, .int .i64 ln3, .int .i64 co3] s21 Y) := Lib.hid (by
  have k3 := HX3.out.grown HG3.out HL3.out.2.2.1
  refine ⟨(HV3.out.below HVY.out).st, (HV3.out.below HVY.out).bx, k3.below HVY.out, ?_, ⟨HV3.out.ne, HL3.out.2.2.1, ?_, HL3.out.2.2.2, ?_, ?_⟩, ⟨HL2.out.1, HL3.out.1, ?_⟩, ⟨HL2.out.2, HL3.out.2.1, ?_⟩, grown_trans (grown_trans HGX.out HG3.out) (below_grown HVY.out _)⟩
  ·rw [← hY, ← hb4]; exact Blk.new _ _ _
  ·rw [← hb4]; exact Nat.ne_of_gt HV3.out.st.blk.lt
  ·rw [← hb4]; exact Nat.ne_of_lt HV3.out.bx.lt
  ·rw [← hb4]; exact Nat.ne_of_lt k3.lt
  ·rw [← hb4]; exact HV3.out.st.bel.size
  ·rw [← hb4]; exact (grown_trans HGX.out HG3.out).size)
 try rw [hY]
 try rw [hb4]
 clear hY hb4 HVY HV3 HG3 HX HX3 HGX HVX HU HGU HV1 HGV1 HV2 HGV2 HC1 HC2 HC3
 have cb40 : Y.cell? ⟨b4, 0, none⟩ = some (.string T3) := HY0.out.x4.cell (j := 0) rfl
 go_upto_block 0 with fail
 go_cut [5, 6] from 16 to 48 (fun _ _ wx => Hid (B3 w0 rb wv ws w 41 b2 b3 b4 #[.string ⟨#[]⟩, .int .i64 0, .int .i64 0, .int .i64 0, .int .i64 0, .int .i64 0, .int .i64 0, .int .i64 0, .int .i64 0, .int .i64 0, .string ⟨#[]⟩] #[.string NM, .int .i64 fr, .int .i64 to_, .int .i64 0, .int .i64 0, .int .i64 0, .int .i64 0, .int .i64 0, .int .i64 0, .int .i64 0, .string ⟨#[]⟩] #[.string T3, .int .i64 ln3, .int .i64 co3] s3 wx))
 case first =>
  have cb31 : Y.cell? ⟨b3, 1, none⟩ = some (.int .i64 fr) := HY0.out.x3.cell (j := 1) rfl; have fb31 := HY0.out.x3.frz 1
  have cb32 : Y.cell? ⟨b3, 2, none⟩ = some (.int .i64 0) := HY0.out.x3.cell (j := 2) rfl; have fb32 := HY0.out.x3.frz 2
  by_cases h1 : bsO T3 = [111, 110, 108, 121]
  ·have g1 : (T3.toList == [111, 110, 108, 121]) = true := by rw [dash_eq, h1]; rfl
   have q := HT3.out
   rw [if_pos h1] at q
   injection q with q1 q2
   subst q1 q2
   clear h1
   have HQ := Lib.hid (HY0.out.set3 2 (.int .i64 fr))
   go_wp2_with fail
   go_meet
   exact HQ
  have g1 : (T3.toList == [111, 110, 108, 121]) = false := by rw [dash_eq]; simpa using h1
  by_cases h2 : bsO T3 = [109, 97, 120]
  ·have g2 : (T3.toList == [109, 97, 120]) = true := by rw [dash_eq, h2]; rfl
   have q := HT3.out
   rw [if_neg h1, if_pos h2] at q
   injection q with q1 q2
   subst q1 q2
   clear h1 h2
   have HQ := Lib.hid (HY0.out.set3 2 (.int .i64 9999))
   go_wp2_with fail
   go_meet
   exact HQ
  have g2 : (T3.toList == [109, 97, 120]) = false := by rw [dash_eq]; simpa using h2
  have q := HT3.out
  rw [if_neg h1, if_neg h2] at q
  obtain ⟨R, hR⟩ : ∃ R, numM (bsO T3) fr 9999 = R := ⟨_, rfl⟩
  rw [hR] at q
  obtain ⟨nv, er⟩ := R
  simp only at q
  injection q with q1 q2
  subst q1
  have HS3 := Lib.hid q2
  have HNU : Hid (∀ W, Calls Tryz.prog 132 #[.string T3, .int .i64 fr, .int .i64 9999] W fun e w' => e = .returned (.tuple #[.int .i64 nv, .int .i64 er]) ∧ w' = W) := Lib.hid fun W => by
   have q := number18_any T3 HZ3.out fr 9999 (by have := HFR.out; omega) (by decide) W
   rw [hR] at q
   exact q
  have HFA : Hid (∀ W, RTat w0 rb wv ws s21 W → Calls Tryz.prog 130 #[.pointer (some ⟨rb, 0, none⟩), .agg #[.int .i64 ln3, .int .i64 co3], .int .i64 er] W fun e' w' => e' = .returned (.tuple #[]) ∧ RTat w0 rb wv ws (failT (ln3, co3) er s21) w' ∧ W.grownBy w' (some rb)) := Lib.hid fun W hW => failR_any HC.out (ln3, co3) er s21 W hW
  clear h1 h2 hR q2
  obtain ⟨e21, he21⟩ : ∃ e, s21.e = e := ⟨_, rfl⟩
  have r4 : Y.cell? ⟨rb, 4, none⟩ = some (.int .i64 s21.e) := HY0.out.st.blk.cell (j := 4) rfl
  rw [he21] at r4
  have HE21 := Lib.hid he21
  rw [he21] at HS3
  clear he21
  have cb41 : Y.cell? ⟨b4, 1, none⟩ = some (.int .i64 ln3) := HY0.out.x4.cell (j := 1) rfl
  have cb42 : Y.cell? ⟨b4, 2, none⟩ = some (.int .i64 co3) := HY0.out.x4.cell (j := 2) rfl
  by_cases he : e21 = 0
  ·have g3 : (e21 == 0) = true := by simpa using he
   by_cases hr : er = 0
   ·have g4 : (er != 0) = false := by simpa using hr
    have HQ1 : Hid (s21 = s3) := Lib.hid ((if_neg (fun q => by have q2 := q.2; rw [hr] at q2; exact absurd q2 (by decide))).symm.trans HS3.out)
    have HQ := Lib.hid (HY0.out.set3 2 (.int .i64 nv))
    rw [HQ1.out] at HQ
    clear he hr
    go_wp2_with (first | (go_at_call 132; refine (HNU.out _).mono ?_; rintro e w' ⟨rfl, hw⟩; rw [hw]; clear hw) | fail)
    go_meet
    exact HQ
   ·have g4 : (er != 0) = true := by simpa using hr
    have HQ1 : Hid (failT (ln3, co3) er s21 = s3) := Lib.hid ((if_pos ⟨he, by simpa using hr⟩).symm.trans HS3.out)
    clear he hr
    go_upto_region 7 with (first | (go_at_call 132; refine (HNU.out _).mono ?_; rintro e w' ⟨rfl, hw⟩; rw [hw]; clear hw) | (go_at_call 130; refine (HFA.out _ HY0.out.st).mono ?_; rintro e w3 ⟨rfl, hs3, hg3⟩; rw [HQ1.out] at hs3; have HY9 := Lib.hid (HY0.out.meth hs3 hg3); have cb32 : w3.cell? ⟨b3, 2, none⟩ = some (.int .i64 0) := HY9.out.x3.cell (j := 2) rfl; have fb32 := HY9.out.x3.frz 2; have HQ := Lib.hid (HY9.out.set3 2 (.int .i64 nv))) | fail)
    go_wp2_with fail
    go_meet
    exact HQ
  ·have g3 : (e21 == 0) = false := by simpa using he
   have HQ1 : Hid (s21 = s3) := Lib.hid ((if_neg (fun q => he q.1)).symm.trans HS3.out)
   have HQ := Lib.hid (HY0.out.set3 2 (.int .i64 nv))
   rw [HQ1.out] at HQ
   clear he
   go_wp2_with (first | (go_at_call 132; refine (HNU.out _).mono ?_; rintro e w' ⟨rfl, hw⟩; rw [hw]; clear hw) | fail)
   go_meet
   exact HQ
 case rest =>
 have HYA := hcut
 clear hcut HY0 cb40
 generalize wc = YA at *
 go_upto_region 13 with (first | (go_at_call 133; refine (HC4.out _ HYA.out.st).mono ?_; rintro e w1 ⟨rfl, hs1, hg1⟩; obtain ⟨VA, hV⟩ : ∃ V, w1 = V := ⟨_, rfl⟩; rw [hV] at hs1 hg1 ⊢; clear hV; have HVA := Lib.hid (HYA.out.meth hs1 hg1); have cb33 : VA.cell? ⟨b3, 3, none⟩ = some (.int .i64 0) := HVA.out.x3.cell (j := 3) rfl; have fb33 := HVA.out.x3.frz 3; clear hs1 hg1) | fail)
 obtain ⟨Y1, hY⟩ : ∃ Y, (VA.setCell ⟨b3, 3, none⟩ (.int .i64 mo)) = Y := ⟨_, rfl⟩
 have HY1 : Hid (B3 w0 rb wv ws w 41 b2 b3 b4 #[.string ⟨#[]⟩, .int .i64 0, .int .i64 0, .int .i64 0, .int .i64 0, .int .i64 0, .int .i64 0, .int .i64 0, .int .i64 0, .int .i64 0, .string ⟨#[]⟩] #[.string NM, .int .i64 fr, .int .i64 to_, .int .i64 mo, .int .i64 0, .int .i64 0, .int .i64 0, .int .i64 0, .int .i64 0, .int .i64 0, .string ⟨#[]⟩] #[.string T3, .int .i64 ln3, .int .i64 co3] s4 Y1) := Lib.hid (by rw [← hY]; exact (HVA.out.set3 3 _))
 try rw [hY]
 clear hY cb33 fb33 HYA HVA
 have cb33 : Y1.cell? ⟨b3, 3, none⟩ = some (.int .i64 mo) := HY1.out.x3.cell (j := 3) rfl; have fb33 := HY1.out.x3.frz 3
 go_upto_region 14 with (first | (go_at_call 134; refine (HC5.out _ HY1.out.st).mono ?_; rintro e w1 ⟨rfl, hs1, hg1⟩; obtain ⟨VB, hV⟩ : ∃ V, w1 = V := ⟨_, rfl⟩; rw [hV] at hs1 hg1 ⊢; clear hV; have HVB := Lib.hid (HY1.out.meth hs1 hg1); have cb34 : VB.cell? ⟨b3, 4, none⟩ = some (.int .i64 0) := HVB.out.x3.cell (j := 4) rfl; have fb34 := HVB.out.x3.frz 4; have cb35 : VB.cell? ⟨b3, 5, none⟩ = some (.int .i64 0) := HVB.out.x3.cell (j := 5) rfl; have fb35 := HVB.out.x3.frz 5; have cb36 : VB.cell? ⟨b3, 6, none⟩ = some (.int .i64 0) := HVB.out.x3.cell (j := 6) rfl; have fb36 := HVB.out.x3.frz 6; clear hs1 hg1) | fail)
 obtain ⟨Y2, hY⟩ : ∃ Y, (((VB.setCell ⟨b3, 4, none⟩ (.int .i64 k)).setCell ⟨b3, 5, none⟩ (.int .i64 v)).setCell ⟨b3, 6, none⟩ (.int .i64 d)) = Y := ⟨_, rfl⟩
 have HY2 : Hid (B3 w0 rb wv ws w 41 b2 b3 b4 #[.string ⟨#[]⟩, .int .i64 0, .int .i64 0, .int .i64 0, .int .i64 0, .int .i64 0, .int .i64 0, .int .i64 0, .int .i64 0, .int .i64 0, .string ⟨#[]⟩] #[.string NM, .int .i64 fr, .int .i64 to_, .int .i64 mo, .int .i64 k, .int .i64 v, .int .i64 d, .int .i64 0, .int .i64 0, .int .i64 0, .string ⟨#[]⟩] #[.string T3, .int .i64 ln3, .int .i64 co3] s5 Y2) := Lib.hid (by rw [← hY]; exact (((HVB.out.set3 4 _).set3 5 _).set3 6 _))
 try rw [hY]
 clear hY cb33 fb33 cb34 cb35 cb36 fb34 fb35 fb36 HY1 HVB
 go_upto_region 15 with (first | (go_at_call 135; refine (HC6.out _ HY2.out.st).mono ?_; rintro e w1 ⟨rfl, hs1, hg1⟩; obtain ⟨VC, hV⟩ : ∃ V, w1 = V := ⟨_, rfl⟩; rw [hV] at hs1 hg1 ⊢; clear hV; have HVC := Lib.hid (HY2.out.meth hs1 hg1); have cb37 : VC.cell? ⟨b3, 7, none⟩ = some (.int .i64 0) := HVC.out.x3.cell (j := 7) rfl; have fb37 := HVC.out.x3.frz 7; have cb38 : VC.cell? ⟨b3, 8, none⟩ = some (.int .i64 0) := HVC.out.x3.cell (j := 8) rfl; have fb38 := HVC.out.x3.frz 8; clear hs1 hg1) | fail)
 obtain ⟨Y3, hY⟩ : ∃ Y, ((VC.setCell ⟨b3, 7, none⟩ (.int .i64 at_)).setCell ⟨b3, 8, none⟩ (.int .i64 ck)) = Y := ⟨_, rfl⟩
 have HY3 : Hid (B3 w0 rb wv ws w 41 b2 b3 b4 #[.string ⟨#[]⟩, .int .i64 0, .int .i64 0, .int .i64 0, .int .i64 0, .int .i64 0, .int .i64 0, .int .i64 0, .int .i64 0, .int .i64 0, .string ⟨#[]⟩] #[.string NM, .int .i64 fr, .int .i64 to_, .int .i64 mo, .int .i64 k, .int .i64 v, .int .i64 d, .int .i64 at_, .int .i64 ck, .int .i64 0, .string ⟨#[]⟩] #[.string T3, .int .i64 ln3, .int .i64 co3] s6 Y3) := Lib.hid (by rw [← hY]; exact ((HVC.out.set3 7 _).set3 8 _))
 try rw [hY]
 clear hY cb37 cb38 fb37 fb38 HY2 HVC
 go_upto_region 16 with (first | (go_at_call 53; refine (HC7.out _ HY3.out.st).mono ?_; rintro e w1 ⟨rfl, hs1, hg1⟩; obtain ⟨VD, hV⟩ : ∃ V, w1 = V := ⟨_, rfl⟩; rw [hV] at hs1 hg1 ⊢; clear hV; have HVD := Lib.hid (HY3.out.meth hs1 hg1); clear hs1 hg1) | (go_at_call 136; refine (HC8.out _ HVD.out.st).mono ?_; rintro e w1 ⟨rfl, hs1, hg1⟩; obtain ⟨VE, hV⟩ : ∃ V, w1 = V := ⟨_, rfl⟩; rw [hV] at hs1 hg1 ⊢; clear hV; have HVE := Lib.hid (HVD.out.meth hs1 hg1); have cb39 : VE.cell? ⟨b3, 9, none⟩ = some (.int .i64 0) := HVE.out.x3.cell (j := 9) rfl; have fb39 := HVE.out.x3.frz 9; clear hs1 hg1) | fail)
 obtain ⟨Y4, hY⟩ : ∃ Y, (VE.setCell ⟨b3, 9, none⟩ (.int .i64 sv)) = Y := ⟨_, rfl⟩
 have HY4 : Hid (B3 w0 rb wv ws w 41 b2 b3 b4 #[.string ⟨#[]⟩, .int .i64 0, .int .i64 0, .int .i64 0, .int .i64 0, .int .i64 0, .int .i64 0, .int .i64 0, .int .i64 0, .int .i64 0, .string ⟨#[]⟩] #[.string NM, .int .i64 fr, .int .i64 to_, .int .i64 mo, .int .i64 k, .int .i64 v, .int .i64 d, .int .i64 at_, .int .i64 ck, .int .i64 sv, .string ⟨#[]⟩] #[.string T3, .int .i64 ln3, .int .i64 co3] s8 Y4) := Lib.hid (by rw [← hY]; exact (HVE.out.set3 9 _))
 try rw [hY]
 clear hY cb39 fb39 HY3 HVD HVE
 go_upto_region 17 with (first | (go_at_call 53; refine (HC9.out _ HY4.out.st).mono ?_; rintro e w1 ⟨rfl, hs1, hg1⟩; obtain ⟨VF, hV⟩ : ∃ V, w1 = V := ⟨_, rfl⟩; rw [hV] at hs1 hg1 ⊢; clear hV; have HVF := Lib.hid (HY4.out.meth hs1 hg1); have cb40 : VF.cell? ⟨b4, 0, none⟩ = some (.string T3) := HVF.out.x4.cell (j := 0) rfl; have fb40 := HVF.out.x4.frz 0; have cb41 : VF.cell? ⟨b4, 1, none⟩ = some (.int .i64 ln3) := HVF.out.x4.cell (j := 1) rfl; have fb41 := HVF.out.x4.frz 1; have cb42 : VF.cell? ⟨b4, 2, none⟩ = some (.int .i64 co3) := HVF.out.x4.cell (j := 2) rfl; have fb42 := HVF.out.x4.frz 2; clear hs1 hg1) | fail)
 obtain ⟨Y5, hY⟩ : ∃ Y, (((VF.setCell ⟨b4, 0, none⟩ (.string T9)).setCell ⟨b4, 1, none⟩ (.int .i64 ln9)).setCell ⟨b4, 2, none⟩ (.int .i64 co9)) = Y := ⟨_, rfl⟩
 have HY5 : Hid (B3 w0 rb wv ws w 41 b2 b3 b4 #[.string ⟨#[]⟩, .int .i64 0, .int .i64 0, .int .i64 0, .int .i64 0, .int .i64 0, .int .i64 0, .int .i64 0, .int .i64 0, .int .i64 0, .string ⟨#[]⟩] #[.string NM, .int .i64 fr, .int .i64 to_, .int .i64 mo, .int .i64 k, .int .i64 v, .int .i64 d, .int .i64 at_, .int .i64 ck, .int .i64 sv, .string ⟨#[]⟩] #[.string T9, .int .i64 ln9, .int .i64 co9] s81 Y5) := Lib.hid (by rw [← hY]; exact (((HVF.out.set4 0 _).set4 1 _).set4 2 _))
 try rw [hY]
 clear hY cb40 cb41 cb42 fb40 fb41 fb42 HY4 HVF
 have cb40 : Y5.cell? ⟨b4, 0, none⟩ = some (.string T9) := HY5.out.x4.cell (j := 0) rfl; have fb40 := HY5.out.x4.frz 0
 obtain ⟨qd, hqd⟩ : ∃ q : Bool, q = decide (bsO T9 ≠ [45]) := ⟨_, rfl⟩
 have HQD := Lib.hid hqd
 clear hqd
 go_cut [72] from 70 to 73 (fun u wx => u = .bool qd ∧ wx = Y5)
 case first =>
  go_wp2_with fail
  go_meet
  exact ⟨congrArg Value.bool (by rw [HQD.out, Bool.eq_iff_iff]; simp [← bsO_ne]), rfl⟩
 case rest =>
 obtain ⟨rfl, hwc⟩ := hcut
 rw [hwc]
 clear hwc
 go_upto_if 72 with fail
 go_cut [] from 73 to 91 (fun wx => Hid (B3 w0 rb wv ws w 41 b2 b3 b4 #[.string ⟨#[]⟩, .int .i64 0, .int .i64 0, .int .i64 0, .int .i64 0, .int .i64 0, .int .i64 0, .int .i64 0, .int .i64 0, .int .i64 0, .string ⟨#[]⟩] #[.string NM, .int .i64 fr, .int .i64 to_, .int .i64 mo, .int .i64 k, .int .i64 v, .int .i64 d, .int .i64 at_, .int .i64 ck, .int .i64 sv, .string LE] #[.string T9, .int .i64 ln9, .int .i64 co9] s9 wx))
 case first =>
  have cb310 : Y5.cell? ⟨b3, 10, none⟩ = some (.string ⟨#[]⟩) := HY5.out.x3.cell (j := 10) rfl; have fb310 := HY5.out.x3.frz 10
  cases qd with
  | false =>
   have h1 : bsO T9 = [45] := by have := HQD.out; simpa using this
   have q := HT9.out
   rw [if_pos h1] at q
   injection q with q1 q2
   have hle : LE = ⟨#[]⟩ := bs_inj q1.symm
   subst hle q2
   clear h1 q1
   go_wp2_with fail
   go_meet
   exact HY5
  | true =>
  have h1 : ¬bsO T9 = [45] := by have := HQD.out; simpa using this
  have q := HT9.out
  rw [if_neg h1] at q
  injection q with q1 q2
  have hle : LE = T9 := bs_inj q1.symm
  subst hle
  obtain ⟨ql, hql⟩ : ∃ q, letterB (bsO LE) = q := ⟨_, rfl⟩
  have HLT : Hid (∀ W, Calls Tryz.prog 137 #[.string LE] W fun e w' => e = .returned (.bool ql) ∧ w' = W) := Lib.hid fun W => by
   have q := letter19_any LE HZ9.out W
   rw [hql] at q
   exact q
  rw [hql] at q2
  have HS9 := Lib.hid q2
  clear h1 q1 q2 hql
  have HQ0 := Lib.hid (HY5.out.set3 10 (.string LE))
  obtain ⟨Z, hZ⟩ : ∃ Z, Y5.setCell ⟨b3, 10, none⟩ (.string LE) = Z := ⟨_, rfl⟩
  rw [hZ] at HQ0
  go_upto_region 19 with fail
  try rw [hZ]
  clear hZ cb310 fb310
  obtain ⟨e81, he81⟩ : ∃ e, s81.e = e := ⟨_, rfl⟩
  have r4 : Z.cell? ⟨rb, 4, none⟩ = some (.int .i64 s81.e) := HQ0.out.st.blk.cell (j := 4) rfl
  rw [he81] at r4 HS9
  clear he81
  have HFA : Hid (∀ W, RTat w0 rb wv ws s81 W → Calls Tryz.prog 130 #[.pointer (some ⟨rb, 0, none⟩), .agg #[.int .i64 ln9, .int .i64 co9], .int .i64 3] W fun e' w' => e' = .returned (.tuple #[]) ∧ RTat w0 rb wv ws (failT (ln9, co9) 3 s81) w' ∧ W.grownBy w' (some rb)) := Lib.hid fun W hW => failR_any HC.out (ln9, co9) 3 s81 W hW
  have cb40 : Z.cell? ⟨b4, 0, none⟩ = some (.string LE) := HQ0.out.x4.cell (j := 0) rfl; have fb40 := HQ0.out.x4.frz 0
  have cb41 : Z.cell? ⟨b4, 1, none⟩ = some (.int .i64 ln9) := HQ0.out.x4.cell (j := 1) rfl; have fb41 := HQ0.out.x4.frz 1
  have cb42 : Z.cell? ⟨b4, 2, none⟩ = some (.int .i64 co9) := HQ0.out.x4.cell (j := 2) rfl; have fb42 := HQ0.out.x4.frz 2
  by_cases he : e81 = 0
  ·have g3 : (e81 == 0) = true := by simpa using he
   cases ql with
   | true =>
    have HQ1 : Hid (s81 = s9) := Lib.hid ((if_neg (by simp)).symm.trans HS9.out)
    rw [HQ1.out] at HQ0
    clear he
    go_wp2_with (first | (go_at_call 137; refine (HLT.out _).mono ?_; rintro e w' ⟨rfl, hw⟩; rw [hw]; clear hw) | fail)
    go_meet
    exact HQ0
   | false =>
    have HQ1 : Hid (failT (ln9, co9) 3 s81 = s9) := Lib.hid ((if_pos ⟨he, rfl⟩).symm.trans HS9.out)
    clear he
    go_wp2_with (first | (go_at_call 137; refine (HLT.out _).mono ?_; rintro e w' ⟨rfl, hw⟩; rw [hw]; clear hw) | (go_at_call 130; refine (HFA.out _ HQ0.out.st).mono ?_; rintro e w3 ⟨rfl, hs3, hg3⟩; rw [HQ1.out] at hs3) | fail)
    go_meet
    exact HQ0.out.meth hs3 hg3
  ·have g3 : (e81 == 0) = false := by simpa using he
   have HQ1 : Hid (s81 = s9) := Lib.hid ((if_neg (fun q => he q.1)).symm.trans HS9.out)
   rw [HQ1.out] at HQ0
   clear he
   go_wp2_with fail
   go_meet
   exact HQ0
 case rest =>
 have HYB := hcut
 clear hcut HY5
 generalize wc = YB at *
 go_upto_region 22 with (first | (go_at_call 56; refine (HC10.out _ HYB.out.st).mono ?_; rintro e w1 ⟨rfl, hs1, hg1⟩; obtain ⟨VG, hV⟩ : ∃ V, w1 = V := ⟨_, rfl⟩; rw [hV] at hs1 hg1 ⊢; clear hV; have HVG := Lib.hid (HYB.out.meth hs1 hg1); clear hs1 hg1) | fail)
 have cb30 : VG.cell? ⟨b3, 0, none⟩ = some (.string NM) := HVG.out.x3.cell (j := 0) rfl
 have cb31 : VG.cell? ⟨b3, 1, none⟩ = some (.int .i64 fr) := HVG.out.x3.cell (j := 1) rfl
 have cb32 : VG.cell? ⟨b3, 2, none⟩ = some (.int .i64 to_) := HVG.out.x3.cell (j := 2) rfl
 have cb33 : VG.cell? ⟨b3, 3, none⟩ = some (.int .i64 mo) := HVG.out.x3.cell (j := 3) rfl
 have cb34 : VG.cell? ⟨b3, 4, none⟩ = some (.int .i64 k) := HVG.out.x3.cell (j := 4) rfl
 have cb35 : VG.cell? ⟨b3, 5, none⟩ = some (.int .i64 v) := HVG.out.x3.cell (j := 5) rfl
 have cb36 : VG.cell? ⟨b3, 6, none⟩ = some (.int .i64 d) := HVG.out.x3.cell (j := 6) rfl
 have cb37 : VG.cell? ⟨b3, 7, none⟩ = some (.int .i64 at_) := HVG.out.x3.cell (j := 7) rfl
 have cb38 : VG.cell? ⟨b3, 8, none⟩ = some (.int .i64 ck) := HVG.out.x3.cell (j := 8) rfl
 have cb39 : VG.cell? ⟨b3, 9, none⟩ = some (.int .i64 sv) := HVG.out.x3.cell (j := 9) rfl
 have cb310 : VG.cell? ⟨b3, 10, none⟩ = some (.string LE) := HVG.out.x3.cell (j := 10) rfl
 have cb20 : VG.cell? ⟨b2, 0, none⟩ = some (.string ⟨#[]⟩) := HVG.out.x2.cell (j := 0) rfl
 have fb20 := HVG.out.x2.frz 0
 have cb21 : VG.cell? ⟨b2, 1, none⟩ = some (.int .i64 0) := HVG.out.x2.cell (j := 1) rfl
 have fb21 := HVG.out.x2.frz 1
 have cb22 : VG.cell? ⟨b2, 2, none⟩ = some (.int .i64 0) := HVG.out.x2.cell (j := 2) rfl
 have fb22 := HVG.out.x2.frz 2
 have cb23 : VG.cell? ⟨b2, 3, none⟩ = some (.int .i64 0) := HVG.out.x2.cell (j := 3) rfl
 have fb23 := HVG.out.x2.frz 3
 have cb24 : VG.cell? ⟨b2, 4, none⟩ = some (.int .i64 0) := HVG.out.x2.cell (j := 4) rfl
 have fb24 := HVG.out.x2.frz 4
 have cb25 : VG.cell? ⟨b2, 5, none⟩ = some (.int .i64 0) := HVG.out.x2.cell (j := 5) rfl
 have fb25 := HVG.out.x2.frz 5
 have cb26 : VG.cell? ⟨b2, 6, none⟩ = some (.int .i64 0) := HVG.out.x2.cell (j := 6) rfl
 have fb26 := HVG.out.x2.frz 6
 have cb27 : VG.cell? ⟨b2, 7, none⟩ = some (.int .i64 0) := HVG.out.x2.cell (j := 7) rfl
 have fb27 := HVG.out.x2.frz 7
 have cb28 : VG.cell? ⟨b2, 8, none⟩ = some (.int .i64 0) := HVG.out.x2.cell (j := 8) rfl
 have fb28 := HVG.out.x2.frz 8
 have cb29 : VG.cell? ⟨b2, 9, none⟩ = some (.int .i64 0) := HVG.out.x2.cell (j := 9) rfl
 have fb29 := HVG.out.x2.frz 9
 have cb210 : VG.cell? ⟨b2, 10, none⟩ = some (.string ⟨#[]⟩) := HVG.out.x2.cell (j := 10) rfl
 have fb210 := HVG.out.x2.frz 10
 have HZZ : Hid (B3 w0 rb wv ws w 41 b2 b3 b4 #[.string NM, .int .i64 fr, .int .i64 to_, .int .i64 mo, .int .i64 k, .int .i64 v, .int .i64 d, .int .i64 at_, .int .i64 ck, .int .i64 sv, .string LE] #[.string NM, .int .i64 fr, .int .i64 to_, .int .i64 mo, .int .i64 k, .int .i64 v, .int .i64 d, .int .i64 at_, .int .i64 ck, .int .i64 sv, .string LE] #[.string T9, .int .i64 ln9, .int .i64 co9] s10 (((((((((((VG.setCell ⟨b2, 0, none⟩ (.string NM)).setCell ⟨b2, 1, none⟩ (.int .i64 fr)).setCell ⟨b2, 2, none⟩ (.int .i64 to_)).setCell ⟨b2, 3, none⟩ (.int .i64 mo)).setCell ⟨b2, 4, none⟩ (.int .i64 k)).setCell ⟨b2, 5, none⟩ (.int .i64 v)).setCell ⟨b2, 6, none⟩ (.int .i64 d)).setCell ⟨b2, 7, none⟩ (.int .i64 at_)).setCell ⟨b2, 8, none⟩ (.int .i64 ck)).setCell ⟨b2, 9, none⟩ (.int .i64 sv)).setCell ⟨b2, 10, none⟩ (.string LE))) := Lib.hid (HVG.out.copy11 (.string NM) (.int .i64 fr) (.int .i64 to_) (.int .i64 mo) (.int .i64 k) (.int .i64 v) (.int .i64 d) (.int .i64 at_) (.int .i64 ck) (.int .i64 sv) (.string LE))
 have hn23 : b2 ≠ b3 := HVG.out.ne.2.2.2.1
 have hn32 : b3 ≠ b2 := Ne.symm hn23
 obtain ⟨ZZ, hZZ⟩ : ∃ Z, (((((((((((VG.setCell ⟨b2, 0, none⟩ (.string NM)).setCell ⟨b2, 1, none⟩ (.int .i64 fr)).setCell ⟨b2, 2, none⟩ (.int .i64 to_)).setCell ⟨b2, 3, none⟩ (.int .i64 mo)).setCell ⟨b2, 4, none⟩ (.int .i64 k)).setCell ⟨b2, 5, none⟩ (.int .i64 v)).setCell ⟨b2, 6, none⟩ (.int .i64 d)).setCell ⟨b2, 7, none⟩ (.int .i64 at_)).setCell ⟨b2, 8, none⟩ (.int .i64 ck)).setCell ⟨b2, 9, none⟩ (.int .i64 sv)).setCell ⟨b2, 10, none⟩ (.string LE)) = Z := ⟨_, rfl⟩
 rw [hZZ] at HZZ
 have r0 : ZZ.cell? ⟨b2, 0, none⟩ = some (.string NM) := HZZ.out.x2.cell (j := 0) rfl
 have r1 : ZZ.cell? ⟨b2, 1, none⟩ = some (.int .i64 fr) := HZZ.out.x2.cell (j := 1) rfl
 have r2 : ZZ.cell? ⟨b2, 2, none⟩ = some (.int .i64 to_) := HZZ.out.x2.cell (j := 2) rfl
 have r3 : ZZ.cell? ⟨b2, 3, none⟩ = some (.int .i64 mo) := HZZ.out.x2.cell (j := 3) rfl
 have r4 : ZZ.cell? ⟨b2, 4, none⟩ = some (.int .i64 k) := HZZ.out.x2.cell (j := 4) rfl
 have r5 : ZZ.cell? ⟨b2, 5, none⟩ = some (.int .i64 v) := HZZ.out.x2.cell (j := 5) rfl
 have r6 : ZZ.cell? ⟨b2, 6, none⟩ = some (.int .i64 d) := HZZ.out.x2.cell (j := 6) rfl
 have r7 : ZZ.cell? ⟨b2, 7, none⟩ = some (.int .i64 at_) := HZZ.out.x2.cell (j := 7) rfl
 have r8 : ZZ.cell? ⟨b2, 8, none⟩ = some (.int .i64 ck) := HZZ.out.x2.cell (j := 8) rfl
 have r9 : ZZ.cell? ⟨b2, 9, none⟩ = some (.int .i64 sv) := HZZ.out.x2.cell (j := 9) rfl
 have r10 : ZZ.cell? ⟨b2, 10, none⟩ = some (.string LE) := HZZ.out.x2.cell (j := 10) rfl
 go_wp2_with fail
 refine bodyPost_ret (v := .agg #[.string NM, .int .i64 fr, .int .i64 to_, .int .i64 mo, .int .i64 k, .int .i64 v, .int .i64 d, .int .i64 at_, .int .i64 ck, .int .i64 sv, .string LE]) (by simp [results, Tryz.results54, go_sem, r0, r1, r2, r3, r4, r5, r6, r7, r8, r9, r10]) rfl ?_
 exact ⟨rfl, HZZ.out.st, HZZ.out.gr⟩
end Go.Proofs.YtlbglinpgjlbkaaGreatDoor
