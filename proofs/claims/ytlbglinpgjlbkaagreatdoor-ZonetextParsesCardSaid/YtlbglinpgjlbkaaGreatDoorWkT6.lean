import Derived.Test.YtlbglinpgjlbkaaGreatDoorWkQs
import Derived.Deep.CutBlock
/- Zone texts: the reference's reader: line, walked. Printed by gen_t6.py. -/
namespace Go.Proofs.YtlbglinpgjlbkaaGreatDoor
open Go.RowKit Wk

theorem lineT_of {ws : List Tok} {s s1 s2 s3 s4 : RSt} {t : Tok} {o sv : Int} {ru f : Bs} (h1 : nextT ws s = (t, s1)) (h2 : offsT t 57600 1 s1 = (o, s2)) (h3 : rulsT ws s2 = ((ru, sv), s3)) (h4 : fmtsT ws s3 = (f, s4)) : lineT ws s = tailT ws o (ru, sv) f s4 := by
 unfold lineT SM.bind
 simp only [h1, h2, h3, h4]
theorem untilT_of {ws : List Tok} {s4 s5 s6 s7 s8 s9 s10 : RSt} {o sv y mo at_ ck : Int} {on : OnT} {ru f : Bs} (h5 : untsT ws s4 = ((), s5)) (h6 : numberT ws 1 9999 s5 = (y, s6)) (h7 : monthT ws s6 = (mo, s7)) (h8 : onsT ws mo s7 = (on, s8)) (h9 : clocksT ws s8 = ((at_, ck), s9)) (h10 : endT ws s9 = ((), s10)) :
  untilT ws o (ru, sv) f s4 = (⟨o, ru, sv, f, false, ⟨y, mo, on, at_, ck⟩⟩, s10) := by
 unfold untilT whensT SM.bind
 simp only [h5, h6, h7, h8, h9, h10, SM.ret]
theorem fmtsT_eq (ws : List Tok) (s : RSt) : fmtsT ws s = (fun r : Tok × RSt => (r.1.tx, if r.2.e = 0 ∧ fmtB r.1.tx = false then failT (tokP r.1) 3 r.2 else r.2)) (nextT ws s) := rfl
theorem untsT_eq (ws : List Tok) (s : RSt) : untsT ws s = (fun r : Tok × RSt => ((), if r.2.e = 0 ∧ untB r.1.tx = false then failT (tokP r.1) 3 r.2 else r.2)) (nextT ws s) := rfl
theorem rulsT_eq (ws : List Tok) (s : RSt) : rulsT ws s = (fun r : Tok × RSt => if r.2.e = 0 ∧ r.1.tx ≠ [45] then (if headD r.1.tx = true then (([], (offsT r.1 10800 60 r.2).1), (offsT r.1 10800 60 r.2).2) else ((r.1.tx, 0), if r.2.e = 0 ∧ nameB r.1.tx = false then failT (tokP r.1) 3 r.2 else r.2)) else (([], 0), r.2)) (nextT ws s) := rfl
theorem head_byte {N : ByteArray} (h : 0 < N.size) : headD (bsO N) = (decide (N[0].toNat = 45) || (decide (48 ≤ N[0].toNat) && decide (N[0].toNat ≤ 57))) := by
 have hl : 0 < (bsO N).length := by rw [bs_len]; exact h
 have hb := bs_at N 0 h
 obtain ⟨c, r, hc⟩ : ∃ c r, bsO N = c :: r := by
  cases e : bsO N with
  | nil => rw [e] at hl; exact absurd hl (by simp)
  | cons c r => exact ⟨c, r, rfl⟩
 have hcc : c = N[0] := by
  rw [← hb]
  simp [hc]
 rw [hc, ← hcc]
 show (some c == some 45 || digC c) = _
 unfold digC
 rw [Bool.eq_iff_iff]
 simp only [Bool.or_eq_true, Bool.and_eq_true, decide_eq_true_eq, beq_iff_eq, Option.some.injEq]
 have h45 : c = 45 ↔ c.toNat = 45 := ⟨fun e => by rw [e]; rfl, fun e => UInt8.toNat_inj.1 e⟩
 rw [h45]
theorem next_ne {ws : List Tok} (hw : ∀ t ∈ ws, t.tx ≠ []) (s : RSt) (h : (nextT ws s).2.e = 0) : (nextT ws s).1.tx ≠ [] := by
 unfold nextT at h ⊢
 by_cases h1 : s.e ≠ 0
 ·rw [if_pos h1] at h
  exact absurd h h1
 ·rw [if_neg h1] at h ⊢
  by_cases h2 : ws.length ≤ s.n
  ·rw [if_pos h2] at h
   unfold failT at h
   rw [if_pos (by simpa using h1)] at h
   exact absurd h (show ¬(4 : Int) = 0 by decide)
  ·rw [if_neg h2]
   exact hw _ (getD_mem (by omega))

set_option maxRecDepth 100000 in
set_option maxHeartbeats 8000000 in
theorem lineR_any {w0 : World} {rb : Nat} {wv : Value} {ws : List Tok} (hc : RCtx w0 rb wv ws) (hw : ∀ t ∈ ws, t.tx ≠ []) (s : RSt) (w : World) (h : RTat w0 rb wv ws s w) :
  Calls Tryz.prog 58 #[.pointer (some ⟨rb, 0, none⟩)] w (TPost w0 rb wv ws liV (lineT ws s) w) := by
 have HC := Lib.hid hc
 have HH := Lib.hid h
 have hlen : ws.length ≤ 1152921504606846976 := hc.ln
 obtain ⟨wa, wc0, hwv, -, -⟩ := h.rd hc
 subst hwv
 obtain ⟨⟨⟨tx1, ln1, co1⟩, s1⟩, h1⟩ : ∃ r, nextT ws s = r := ⟨_, rfl⟩
 obtain ⟨⟨of_, s2⟩, h2⟩ : ∃ r, offsT ⟨tx1, ln1, co1⟩ 57600 1 s1 = r := ⟨_, rfl⟩
 obtain ⟨⟨⟨ru, sv⟩, s3⟩, h3⟩ : ∃ r, rulsT ws s2 = r := ⟨_, rfl⟩
 obtain ⟨⟨fm, s4⟩, h4⟩ : ∃ r, fmtsT ws s3 = r := ⟨_, rfl⟩
 obtain ⟨⟨⟨⟩, s5⟩, h5⟩ : ∃ r, untsT ws s4 = r := ⟨_, rfl⟩
 obtain ⟨⟨yr, s6⟩, h6⟩ : ∃ r, numberT ws 1 9999 s5 = r := ⟨_, rfl⟩
 obtain ⟨⟨mo, s7⟩, h7⟩ : ∃ r, monthT ws s6 = r := ⟨_, rfl⟩
 obtain ⟨⟨⟨k, v, d⟩, s8⟩, h8⟩ : ∃ r, onsT ws mo s7 = r := ⟨_, rfl⟩
 obtain ⟨⟨⟨at_, ck⟩, s9⟩, h9⟩ : ∃ r, clocksT ws s8 = r := ⟨_, rfl⟩
 obtain ⟨⟨⟨⟩, s10⟩, h10⟩ : ∃ r, endT ws s9 = r := ⟨_, rfl⟩
 obtain ⟨R, hR⟩ : ∃ R, lineT ws s = R := ⟨_, rfl⟩
 rw [hR]
 rw [lineT_of h1 h2 h3 h4] at hR
 have HU := untilT_of (o := of_) (sv := sv) (ru := ru) (f := fm) h5 h6 h7 h8 h9 h10
 have HRE : Hid ((if s4.e = 0 ∧ s4.n = ws.length then (⟨of_, ru, sv, fm, true, un0⟩, s4) else (⟨of_, ru, sv, fm, false, ⟨yr, mo, ⟨k, v, d⟩, at_, ck⟩⟩, s10)) = R) := Lib.hid (by rw [← hR, ← HU]; rfl)
 clear HU hR
 have HS1 : Hid (tx1.length ≤ 4294967280) := Lib.hid (by have q := next_sz hc s; rw [h1] at q; exact q)
 obtain ⟨T1, rfl⟩ := bs_of tx1
 obtain ⟨RU, rfl⟩ := bs_of ru
 obtain ⟨FM, rfl⟩ := bs_of fm
 obtain ⟨⟨⟨tx2, ln2, co2⟩, s21⟩, hn2⟩ : ∃ r, nextT ws s2 = r := ⟨_, rfl⟩
 have HS2 : Hid (tx2.length ≤ 4294967280) := Lib.hid (by have q := next_sz hc s2; rw [hn2] at q; exact q)
 have HNE2 : Hid (s21.e = 0 → tx2 ≠ []) := Lib.hid (fun he => by
  have q := next_ne hw s2 (by rw [hn2]; exact he)
  rw [hn2] at q
  exact q)
 have HT2 : Hid ((if s21.e = 0 ∧ tx2 ≠ [45] then (if headD tx2 = true then (([], (offsT ⟨tx2, ln2, co2⟩ 10800 60 s21).1), (offsT ⟨tx2, ln2, co2⟩ 10800 60 s21).2) else ((tx2, 0), if s21.e = 0 ∧ nameB tx2 = false then failT (ln2, co2) 3 s21 else s21)) else (([], 0), s21)) = ((bsO RU, sv), s3)) := Lib.hid (by
  have q := h3
  rw [rulsT_eq, hn2] at q
  exact q)
 obtain ⟨T2, rfl⟩ := bs_of tx2
 obtain ⟨⟨⟨tx3, ln3, co3⟩, s31⟩, hn3⟩ : ∃ r, nextT ws s3 = r := ⟨_, rfl⟩
 have HT3 : Hid ((tx3, if s31.e = 0 ∧ fmtB tx3 = false then failT (ln3, co3) 3 s31 else s31) = (bsO FM, s4)) := Lib.hid (by
  have q := h4
  rw [fmtsT_eq, hn3] at q
  exact q)
 obtain ⟨T3, rfl⟩ := bs_of tx3
 have HZ3 : Hid (T3.size < 4294967281) := Lib.hid (by have q := next_sz hc s3; rw [hn3] at q; simp only at q; rw [bs_len] at q; omega)
 have hfm : FM = T3 := by
  have q := HT3.out
  injection q with q1 q2
  exact bs_inj q1.symm
 subst hfm
 have HS4 : Hid ((if s31.e = 0 ∧ fmtB (bsO FM) = false then failT (ln3, co3) 3 s31 else s31) = s4) := Lib.hid (by
  have q := HT3.out
  injection q with q1 q2)
 obtain ⟨⟨⟨tx5, ln5, co5⟩, s41⟩, hn5⟩ : ∃ r, nextT ws s4 = r := ⟨_, rfl⟩
 have HT5 : Hid ((if s41.e = 0 ∧ untB tx5 = false then failT (ln5, co5) 3 s41 else s41) = s5) := Lib.hid (by
  have q := h5
  rw [untsT_eq, hn5] at q
  injection q with q1 q2)
 obtain ⟨T5, rfl⟩ := bs_of tx5
 obtain ⟨⟨sv2, s22⟩, hs2⟩ : ∃ r, offsT ⟨bsO T2, ln2, co2⟩ 10800 60 s21 = r := ⟨_, rfl⟩
 rw [hs2] at HT2
 have HC1 : Hid (∀ W, RTat w0 rb (.slice wa ws.length wc0) ws s W → Calls Tryz.prog 53 #[.pointer (some ⟨rb, 0, none⟩)] W fun e w' => e = .returned (.agg #[.string T1, .int .i64 ln1, .int .i64 co1]) ∧ RTat w0 rb (.slice wa ws.length wc0) ws s1 w' ∧ W.grownBy w' (some rb)) := Lib.hid fun W hW => by
  have q := nextR_any HC.out s W hW
  rw [h1] at q
  exact q
 have HC2 : Hid (∀ W, RTat w0 rb (.slice wa ws.length wc0) ws s1 W → Calls Tryz.prog 136 #[.pointer (some ⟨rb, 0, none⟩), .agg #[.string T1, .int .i64 ln1, .int .i64 co1], .int .i64 57600, .int .i64 1] W fun e w' => e = .returned (.int .i64 of_) ∧ RTat w0 rb (.slice wa ws.length wc0) ws s2 w' ∧ W.grownBy w' (some rb)) := Lib.hid fun W hW => by
  have q := offR_of HC.out ⟨bsO T1, ln1, co1⟩ HS1.out s1 W hW
  rw [h2] at q
  exact q
 have HC3 : Hid (∀ W, RTat w0 rb (.slice wa ws.length wc0) ws s2 W → Calls Tryz.prog 53 #[.pointer (some ⟨rb, 0, none⟩)] W fun e w' => e = .returned (.agg #[.string T2, .int .i64 ln2, .int .i64 co2]) ∧ RTat w0 rb (.slice wa ws.length wc0) ws s21 w' ∧ W.grownBy w' (some rb)) := Lib.hid fun W hW => by
  have q := nextR_any HC.out s2 W hW
  rw [hn2] at q
  exact q
 have HC4 : Hid (∀ W, RTat w0 rb (.slice wa ws.length wc0) ws s21 W → Calls Tryz.prog 136 #[.pointer (some ⟨rb, 0, none⟩), .agg #[.string T2, .int .i64 ln2, .int .i64 co2], .int .i64 10800, .int .i64 60] W fun e w' => e = .returned (.int .i64 sv2) ∧ RTat w0 rb (.slice wa ws.length wc0) ws s22 w' ∧ W.grownBy w' (some rb)) := Lib.hid fun W hW => by
  have q := offR_sv HC.out ⟨bsO T2, ln2, co2⟩ HS2.out s21 W hW
  rw [hs2] at q
  exact q
 have HC5 : Hid (∀ W, RTat w0 rb (.slice wa ws.length wc0) ws s3 W → Calls Tryz.prog 53 #[.pointer (some ⟨rb, 0, none⟩)] W fun e w' => e = .returned (.agg #[.string FM, .int .i64 ln3, .int .i64 co3]) ∧ RTat w0 rb (.slice wa ws.length wc0) ws s31 w' ∧ W.grownBy w' (some rb)) := Lib.hid fun W hW => by
  have q := nextR_any HC.out s3 W hW
  rw [hn3] at q
  exact q
 have HC6 : Hid (∀ W, RTat w0 rb (.slice wa ws.length wc0) ws s4 W → Calls Tryz.prog 53 #[.pointer (some ⟨rb, 0, none⟩)] W fun e w' => e = .returned (.agg #[.string T5, .int .i64 ln5, .int .i64 co5]) ∧ RTat w0 rb (.slice wa ws.length wc0) ws s41 w' ∧ W.grownBy w' (some rb)) := Lib.hid fun W hW => by
  have q := nextR_any HC.out s4 W hW
  rw [hn5] at q
  exact q
 have HC7 : Hid (∀ W, RTat w0 rb (.slice wa ws.length wc0) ws s5 W → Calls Tryz.prog 131 #[.pointer (some ⟨rb, 0, none⟩), .int .i64 1, .int .i64 9999] W fun e w' => e = .returned (.int .i64 yr) ∧ RTat w0 rb (.slice wa ws.length wc0) ws s6 w' ∧ W.grownBy w' (some rb)) := Lib.hid fun W hW => by
  have q := numberR_any HC.out 1 9999 (by decide) (by decide) s5 W hW
  rw [h6] at q
  exact q
 have HC8 : Hid (∀ W, RTat w0 rb (.slice wa ws.length wc0) ws s6 W → Calls Tryz.prog 133 #[.pointer (some ⟨rb, 0, none⟩)] W fun e w' => e = .returned (.int .i64 mo) ∧ RTat w0 rb (.slice wa ws.length wc0) ws s7 w' ∧ W.grownBy w' (some rb)) := Lib.hid fun W hW => by
  have q := monthR_any HC.out s6 W hW
  rw [h7] at q
  exact q
 have HC9 : Hid (∀ W, RTat w0 rb (.slice wa ws.length wc0) ws s7 W → Calls Tryz.prog 134 #[.pointer (some ⟨rb, 0, none⟩), .int .i64 mo] W fun e w' => e = .returned (.agg #[.int .i64 k, .int .i64 v, .int .i64 d]) ∧ RTat w0 rb (.slice wa ws.length wc0) ws s8 w' ∧ W.grownBy w' (some rb)) := Lib.hid fun W hW => by
  have q := onR_any HC.out mo s7 W hW
  rw [h8] at q
  exact q
 have HC10 : Hid (∀ W, RTat w0 rb (.slice wa ws.length wc0) ws s8 W → Calls Tryz.prog 135 #[.pointer (some ⟨rb, 0, none⟩)] W fun e w' => e = .returned (.tuple #[.int .i64 at_, .int .i64 ck]) ∧ RTat w0 rb (.slice wa ws.length wc0) ws s9 w' ∧ W.grownBy w' (some rb)) := Lib.hid fun W hW => by
  have q := clockR_any HC.out s8 W hW
  rw [h9] at q
  exact q
 have HC11 : Hid (∀ W, RTat w0 rb (.slice wa ws.length wc0) ws s9 W → Calls Tryz.prog 56 #[.pointer (some ⟨rb, 0, none⟩)] W fun e w' => e = .returned (.tuple #[]) ∧ RTat w0 rb (.slice wa ws.length wc0) ws s10 w' ∧ W.grownBy w' (some rb)) := Lib.hid fun W hW => by
  have q := endR_any HC.out s9 W hW
  rw [h10] at q
  exact q
 clear h1 h2 h3 h4 h5 h6 h7 h8 h9 h10 hn2 hn3 hn5 hs2 h hc hw HT3
 go_enter Tryz.func58, Tryz.ntmps58
 go_upto_region 1 with fail
 obtain ⟨b2, hb2⟩ : ∃ b, w.heap.size = b := ⟨_, rfl⟩
 obtain ⟨U, hU⟩ : ∃ U, w.alloc (.cells #[.int .i64 0, .string ⟨#[]⟩, .int .i64 0, .string ⟨#[]⟩, .bool false, .int .i64 0, .int .i64 0, .int .i64 0, .int .i64 0, .int .i64 0, .int .i64 0, .int .i64 0] 102) = U := ⟨_, rfl⟩
 have HU : Hid (TBx w0 rb (.slice wa ws.length wc0) ws s b2 #[.int .i64 0, .string ⟨#[]⟩, .int .i64 0, .string ⟨#[]⟩, .bool false, .int .i64 0, .int .i64 0, .int .i64 0, .int .i64 0, .int .i64 0, .int .i64 0, .int .i64 0] 102 U) := Lib.hid (by rw [← hU, ← hb2]; exact TBx.new HH.out _ _)
 have HGU : Hid (w.grownBy U (some rb)) := Lib.hid (by rw [← hU]; exact below_grown ((Below.refl _ _).alloc (Nat.le_refl _) _) _)
 have HL2 : Hid (w0.heap.size ≤ b2 ∧ w.heap.size ≤ b2) := Lib.hid (by rw [← hb2]; exact ⟨HH.out.bel.size, Nat.le_refl _⟩)
 try rw [hU]
 try rw [hb2]
 clear hU hb2
 go_upto_region 2 with (first | (go_at_call 53; refine (HC1.out _ HU.out.st).mono ?_; rintro e w1 ⟨rfl, hs1, hg1⟩; obtain ⟨V1, hV⟩ : ∃ V, w1 = V := ⟨_, rfl⟩; rw [hV] at hs1 hg1 ⊢; clear hV; have HV1 := Lib.hid (HU.out.meth hs1 hg1); have HGV1 := Lib.hid (grown_trans HGU.out hg1); clear hs1 hg1) | (go_at_call 136; refine (HC2.out _ HV1.out.st).mono ?_; rintro e w1 ⟨rfl, hs1, hg1⟩; obtain ⟨V2, hV⟩ : ∃ V, w1 = V := ⟨_, rfl⟩; rw [hV] at hs1 hg1 ⊢; clear hV; have HV2 := Lib.hid (HV1.out.meth hs1 hg1); have HGV2 := Lib.hid (grown_trans HGV1.out hg1); clear hs1 hg1) | fail)
 obtain ⟨b3, hb3⟩ : ∃ b, V2.heap.size = b := ⟨_, rfl⟩
 obtain ⟨X, hX⟩ : ∃ X, V2.alloc (.cells #[.int .i64 of_, .string ⟨#[]⟩, .int .i64 0, .string ⟨#[]⟩, .bool false, .int .i64 0, .int .i64 0, .int .i64 0, .int .i64 0, .int .i64 0, .int .i64 0, .int .i64 0] 102) = X := ⟨_, rfl⟩
 have HVX : Hid (Below V2.heap.size V2 X) := Lib.hid (by rw [← hX]; exact (Below.refl _ _).alloc (Nat.le_refl _) _)
 have HX3 : Hid (Blk X b3 #[.int .i64 of_, .string ⟨#[]⟩, .int .i64 0, .string ⟨#[]⟩, .bool false, .int .i64 0, .int .i64 0, .int .i64 0, .int .i64 0, .int .i64 0, .int .i64 0, .int .i64 0] 102) := Lib.hid (by rw [← hX, ← hb3]; exact Blk.new _ _ _)
 have HX := Lib.hid (HV2.out.below HVX.out)
 have HGX : Hid (w.grownBy X (some rb)) := Lib.hid (grown_trans HGV2.out (below_grown HVX.out _))
 have HL3 : Hid (w0.heap.size ≤ b3 ∧ w.heap.size ≤ b3 ∧ b3 ≠ rb ∧ b2 ≠ b3) := Lib.hid (by rw [← hb3]; exact ⟨HV2.out.st.bel.size, HGV2.out.size, Nat.ne_of_gt HV2.out.st.blk.lt, Nat.ne_of_lt HV2.out.bx.lt⟩)
 try rw [hX]
 try rw [hb3]
 clear hX hb3
 go_upto_region 3 with (first | (go_at_call 53; refine (HC3.out _ HX.out.st).mono ?_; rintro e w1 ⟨rfl, hs1, hg1⟩; obtain ⟨V3, hV⟩ : ∃ V, w1 = V := ⟨_, rfl⟩; rw [hV] at hs1 hg1 ⊢; clear hV; have HV3 := Lib.hid (HX.out.meth hs1 hg1); have HG3 := Lib.hid hg1; clear hs1 hg1) | fail)
 obtain ⟨b4, hb4⟩ : ∃ b, V3.heap.size = b := ⟨_, rfl⟩
 obtain ⟨Y, hY⟩ : ∃ Y, V3.alloc (.cells #[.string T2, .int .i64 ln2, .int .i64 co2] 88) = Y := ⟨_, rfl⟩
 have HVY : Hid (Below V3.heap.size V3 Y) := Lib.hid (by rw [← hY]; exact (Below.refl _ _).alloc (Nat.le_refl _) _)
 have HY0 : Hid (B3 w0 rb (.slice wa ws.length wc0) ws w 102 b2 b3 b4 #[.int .i64 0, .string ⟨#[]⟩, .int .i64 0, .string ⟨#[]⟩, .bool false, .int .i64 0, .int .i64 0, .int .i64 0, .int .i64 0, .int .i64 0, .int .i64 0, .int .i64 0] #[.int .i64 of_, .string ⟨#[]⟩, .int .i64 0, .string ⟨#[]⟩, .bool false, .int .i64 0, .int .i64 0, .int .i64 0, .int .i64 0, .int .i64 0, .int .i64 0, .int .i64 0] #[.string T2, .int .i64 ln2, .int .i64 co2] s21 Y) := Lib.hid (by
  have k3 := HX3.out.grown HG3.out HL3.out.2.2.1
  refine ⟨(HV3.out.below HVY.out).st, (HV3.out.below HVY.out).bx, k3.below HVY.out, ?_, ⟨HV3.out.ne, HL3.out.2.2.1, ?_, HL3.out.2.2.2, ?_, ?_⟩, ⟨HL2.out.1, HL3.out.1, ?_⟩, ⟨HL2.out.2, HL3.out.2.1, ?_⟩, grown_trans (grown_trans HGX.out HG3.out) (below_grown HVY.out _)⟩
  ·rw [← hY, ← hb4]; exact Blk.new _ _ _
  ·rw [← hb4]; exact Nat.ne_of_gt HV3.out.st.blk.lt
  ·rw [← hb4]; exact Nat.ne_of_lt HV3.out.bx.lt
  ·rw [← hb4]; exact Nat.ne_of_lt k3.lt
  ·rw [← hb4]; exact HV3.out.st.bel.size
  ·rw [← hb4]; exact (grown_trans HGX.out HG3.out).size)
 try rw [hY]
 try rw [hb4]
 clear hY hb4 HVY HV3 HG3 HX HX3 HGX HVX HU HGU HV1 HGV1 HV2 HGV2 HC1 HC2 HC3
 have cb40 : Y.cell? ⟨b4, 0, none⟩ = some (.string T2) := HY0.out.x4.cell (j := 0) rfl
 have r4 : Y.cell? ⟨rb, 4, none⟩ = some (.int .i64 s21.e) := HY0.out.st.blk.cell (j := 4) rfl
 obtain ⟨qa, hqa⟩ : ∃ q, (decide (s21.e = 0) && decide (bsO T2 ≠ [45])) = q := ⟨_, rfl⟩
 have HQA := Lib.hid hqa
 clear hqa
 go_cut [22] from 13 to 23 (fun u wx => u = .bool qa ∧ Hid (B3 w0 rb (.slice wa ws.length wc0) ws w 102 b2 b3 b4 #[.int .i64 0, .string ⟨#[]⟩, .int .i64 0, .string ⟨#[]⟩, .bool false, .int .i64 0, .int .i64 0, .int .i64 0, .int .i64 0, .int .i64 0, .int .i64 0, .int .i64 0] #[.int .i64 of_, .string ⟨#[]⟩, .int .i64 0, .string ⟨#[]⟩, .bool false, .int .i64 0, .int .i64 0, .int .i64 0, .int .i64 0, .int .i64 0, .int .i64 0, .int .i64 0] #[.string T2, .int .i64 ln2, .int .i64 co2] s21 wx))
 case first =>
  obtain ⟨e21, he21⟩ : ∃ e, s21.e = e := ⟨_, rfl⟩
  rw [he21] at r4
  by_cases he : e21 = 0
  ·have g1 : (e21 == 0) = true := by simpa using he
   have HEZ := Lib.hid (he21.trans he)
   clear he he21
   go_wp2_with fail
   go_meet
   exact ⟨congrArg Value.bool (by rw [← HQA.out, Bool.eq_iff_iff]; simp [HEZ.out, ← bsO_ne]), HY0⟩
  ·have g1 : (e21 == 0) = false := by simpa using he
   have HEZ : Hid (s21.e ≠ 0) := Lib.hid (by rw [he21]; exact he)
   clear he he21
   go_wp2_with fail
   go_meet
   exact ⟨congrArg Value.bool (by rw [← HQA.out]; simp [HEZ.out]), HY0⟩
 case rest =>
 obtain ⟨rfl, HYA⟩ := hcut
 generalize wc = YA at *
 clear HY0 cb40 r4
 go_upto_if 22 with fail
 go_cut [5] from 23 to 51 (fun _ wx => Hid (B3 w0 rb (.slice wa ws.length wc0) ws w 102 b2 b3 b4 #[.int .i64 0, .string ⟨#[]⟩, .int .i64 0, .string ⟨#[]⟩, .bool false, .int .i64 0, .int .i64 0, .int .i64 0, .int .i64 0, .int .i64 0, .int .i64 0, .int .i64 0] #[.int .i64 of_, .string RU, .int .i64 sv, .string ⟨#[]⟩, .bool false, .int .i64 0, .int .i64 0, .int .i64 0, .int .i64 0, .int .i64 0, .int .i64 0, .int .i64 0] #[.string T2, .int .i64 ln2, .int .i64 co2] s3 wx))
 case first =>
  have cb40 : YA.cell? ⟨b4, 0, none⟩ = some (.string T2) := HYA.out.x4.cell (j := 0) rfl; have fb40 := HYA.out.x4.frz 0
  have cb41 : YA.cell? ⟨b4, 1, none⟩ = some (.int .i64 ln2) := HYA.out.x4.cell (j := 1) rfl; have fb41 := HYA.out.x4.frz 1
  have cb42 : YA.cell? ⟨b4, 2, none⟩ = some (.int .i64 co2) := HYA.out.x4.cell (j := 2) rfl; have fb42 := HYA.out.x4.frz 2
  have cb31 : YA.cell? ⟨b3, 1, none⟩ = some (.string ⟨#[]⟩) := HYA.out.x3.cell (j := 1) rfl; have fb31 := HYA.out.x3.frz 1
  have cb32 : YA.cell? ⟨b3, 2, none⟩ = some (.int .i64 0) := HYA.out.x3.cell (j := 2) rfl; have fb32 := HYA.out.x3.frz 2
  cases qa with
  | false =>
   have hq : ¬(s21.e = 0 ∧ bsO T2 ≠ [45]) := by have := HQA.out; simpa using this
   have q := HT2.out
   rw [if_neg hq] at q
   injection q with q1 q2
   injection q1 with q3 q4
   have hru : RU = ⟨#[]⟩ := bs_inj q3.symm
   subst hru q4 q2
   clear hq q3
   go_wp2_with fail
   go_meet
   exact HYA
  | true =>
  have hq : s21.e = 0 ∧ bsO T2 ≠ [45] := by have := HQA.out; simpa using this
  have q := HT2.out
  rw [if_pos hq] at q
  have hsz : 0 < T2.size := by
   have q := HNE2.out hq.1
   rw [← bs_len]
   exact List.length_pos_iff.2 q
  have hsz2 : (0 : Int) < (T2.size : Int) := by omega
  obtain ⟨qh, hqh⟩ : ∃ q, headD (bsO T2) = q := ⟨_, rfl⟩
  have HQH : Hid ((decide (T2[0].toNat = 45) || (decide (48 ≤ T2[0].toNat) && decide (T2[0].toNat ≤ 57))) = qh) := Lib.hid (by rw [← head_byte hsz]; exact hqh)
  rw [hqh] at q
  have HQ2 := Lib.hid q
  have HEQ := Lib.hid hq.1
  clear hqh q hq
  go_upto_region 5 with fail
  go_cut [35] from 26 to 36 (fun u wx => u = .bool qh ∧ wx = YA)
  case first =>
   by_cases h1 : T2[0].toNat = 45
   ·have g1 : ((T2[0].toNat : Int) == 45) = true := by rw [h1]; rfl
    have HX1 := Lib.hid h1
    clear h1
    go_wp2_with fail
    go_meet
    exact ⟨congrArg Value.bool (by rw [← HQH.out]; simp [HX1.out]), rfl⟩
   ·have g1 : ((T2[0].toNat : Int) == 45) = false := by simpa using (by omega : ¬(T2[0].toNat : Int) = 45)
    have HX1 := Lib.hid h1
    clear h1
    by_cases h2 : 48 ≤ T2[0].toNat
    ·have g2 : (48 : Int) ≤ (T2[0].toNat : Int) := by omega
     have HX2 := Lib.hid h2
     clear h2
     by_cases h3 : T2[0].toNat ≤ 57
     ·have g3 : (T2[0].toNat : Int) ≤ 57 := by omega
      have HX3 := Lib.hid h3
      clear h3
      go_wp2_with fail
      go_meet
      exact ⟨congrArg Value.bool (by rw [← HQH.out]; simp [HX2.out, HX3.out]), rfl⟩
     ·have g3 : ¬(T2[0].toNat : Int) ≤ 57 := by omega
      have HX3 := Lib.hid h3
      clear h3
      go_wp2_with fail
      go_meet
      exact ⟨congrArg Value.bool (by rw [← HQH.out]; simp [HX1.out, HX3.out]), rfl⟩
    ·have g2 : ¬(48 : Int) ≤ (T2[0].toNat : Int) := by omega
     have HX2 := Lib.hid h2
     clear h2
     go_wp2_with fail
     go_meet
     exact ⟨congrArg Value.bool (by rw [← HQH.out]; simp [HX1.out, HX2.out]), rfl⟩
  case rest =>
  obtain ⟨rfl, hwc⟩ := hcut
  rw [hwc]
  clear hwc
  go_upto_if 35 with fail
  cases qh with
  | true =>
   have q := HQ2.out
   rw [if_pos rfl] at q
   injection q with q1 q2
   injection q1 with q3 q4
   have hru : RU = ⟨#[]⟩ := bs_inj q3.symm
   subst hru q4 q2
   clear q3
   go_wp2_with (first | (go_at_call 136; refine (HC4.out _ HYA.out.st).mono ?_; rintro e w1 ⟨rfl, hs1, hg1⟩; obtain ⟨VA, hV⟩ : ∃ V, w1 = V := ⟨_, rfl⟩; rw [hV] at hs1 hg1 ⊢; clear hV; have HVA := Lib.hid (HYA.out.meth hs1 hg1); have cb32 : VA.cell? ⟨b3, 2, none⟩ = some (.int .i64 0) := HVA.out.x3.cell (j := 2) rfl; have fb32 := HVA.out.x3.frz 2; have HQ := Lib.hid (HVA.out.set3 2 (.int .i64 sv2)); clear hs1 hg1) | fail)
   go_meet
   exact HQ
  | false =>
   have q := HQ2.out
   rw [if_neg (by simp)] at q
   injection q with q1 q2
   injection q1 with q3 q4
   have hru : RU = T2 := bs_inj q3.symm
   subst hru q4
   clear q3
   obtain ⟨qn, hqn⟩ : ∃ q, nameB (bsO RU) = q := ⟨_, rfl⟩
   have HNA : Hid (∀ W, Calls Tryz.prog 109 #[.string RU] W fun e w' => e = .returned (.bool qn) ∧ w' = W) := Lib.hid (by rw [← hqn]; exact fun W => name18_any RU W)
   rw [hqn] at q2
   have HS3 := Lib.hid q2
   clear q2 hqn
   have HFA : Hid (∀ W, RTat w0 rb (.slice wa ws.length wc0) ws s21 W → Calls Tryz.prog 130 #[.pointer (some ⟨rb, 0, none⟩), .agg #[.int .i64 ln2, .int .i64 co2], .int .i64 3] W fun e' w' => e' = .returned (.tuple #[]) ∧ RTat w0 rb (.slice wa ws.length wc0) ws (failT (ln2, co2) 3 s21) w' ∧ W.grownBy w' (some rb)) := Lib.hid fun W hW => failR_any HC.out (ln2, co2) 3 s21 W hW
   have HQ0 := Lib.hid (HYA.out.set3 1 (.string RU))
   obtain ⟨Z, hZ⟩ : ∃ Z, YA.setCell ⟨b3, 1, none⟩ (.string RU) = Z := ⟨_, rfl⟩
   rw [hZ] at HQ0
   go_upto_region 8 with fail
   try rw [hZ]
   clear hZ cb31 fb31 cb40 cb41 cb42 fb40 fb41 fb42 cb32 fb32
   have cb40 : Z.cell? ⟨b4, 0, none⟩ = some (.string RU) := HQ0.out.x4.cell (j := 0) rfl; have fb40 := HQ0.out.x4.frz 0
   have cb41 : Z.cell? ⟨b4, 1, none⟩ = some (.int .i64 ln2) := HQ0.out.x4.cell (j := 1) rfl; have fb41 := HQ0.out.x4.frz 1
   have cb42 : Z.cell? ⟨b4, 2, none⟩ = some (.int .i64 co2) := HQ0.out.x4.cell (j := 2) rfl; have fb42 := HQ0.out.x4.frz 2
   cases qn with
   | true =>
    have HQ1 : Hid (s21 = s3) := Lib.hid ((if_neg (by simp)).symm.trans HS3.out)
    rw [HQ1.out] at HQ0
    go_wp2_with (first | (go_at_call 109; refine (HNA.out _).mono ?_; rintro e w' ⟨rfl, hw⟩; rw [hw]; clear hw) | fail)
    go_meet
    exact HQ0
   | false =>
    have HQ1 : Hid (failT (ln2, co2) 3 s21 = s3) := Lib.hid ((if_pos ⟨HEQ.out, rfl⟩).symm.trans HS3.out)
    go_wp2_with (first | (go_at_call 109; refine (HNA.out _).mono ?_; rintro e w' ⟨rfl, hw⟩; rw [hw]; clear hw) | (go_at_call 130; refine (HFA.out _ HQ0.out.st).mono ?_; rintro e w3 ⟨rfl, hs3, hg3⟩; rw [HQ1.out] at hs3) | fail)
    go_meet
    exact HQ0.out.meth hs3 hg3
 case rest =>
 have HYB := hcut
 clear hcut HYA
 generalize wc = YB at *
 go_upto_region 11 with (first | (go_at_call 53; refine (HC5.out _ HYB.out.st).mono ?_; rintro e w1 ⟨rfl, hs1, hg1⟩; obtain ⟨VB, hV⟩ : ∃ V, w1 = V := ⟨_, rfl⟩; rw [hV] at hs1 hg1 ⊢; clear hV; have HVB := Lib.hid (HYB.out.meth hs1 hg1); have cb40 : VB.cell? ⟨b4, 0, none⟩ = some (.string T2) := HVB.out.x4.cell (j := 0) rfl; have fb40 := HVB.out.x4.frz 0; have cb41 : VB.cell? ⟨b4, 1, none⟩ = some (.int .i64 ln2) := HVB.out.x4.cell (j := 1) rfl; have fb41 := HVB.out.x4.frz 1; have cb42 : VB.cell? ⟨b4, 2, none⟩ = some (.int .i64 co2) := HVB.out.x4.cell (j := 2) rfl; have fb42 := HVB.out.x4.frz 2; clear hs1 hg1) | fail)
 obtain ⟨Y11, hY⟩ : ∃ Y, (((VB.setCell ⟨b4, 0, none⟩ (.string FM)).setCell ⟨b4, 1, none⟩ (.int .i64 ln3)).setCell ⟨b4, 2, none⟩ (.int .i64 co3)) = Y := ⟨_, rfl⟩
 have HY11 : Hid (B3 w0 rb (.slice wa ws.length wc0) ws w 102 b2 b3 b4 #[.int .i64 0, .string ⟨#[]⟩, .int .i64 0, .string ⟨#[]⟩, .bool false, .int .i64 0, .int .i64 0, .int .i64 0, .int .i64 0, .int .i64 0, .int .i64 0, .int .i64 0] #[.int .i64 of_, .string RU, .int .i64 sv, .string ⟨#[]⟩, .bool false, .int .i64 0, .int .i64 0, .int .i64 0, .int .i64 0, .int .i64 0, .int .i64 0, .int .i64 0] #[.string FM, .int .i64 ln3, .int .i64 co3] s31 Y11) := Lib.hid (by rw [← hY]; exact (((HVB.out.set4 0 _).set4 1 _).set4 2 _))
 try rw [hY]
 clear hY cb40 cb41 cb42 fb40 fb41 fb42 HYB HVB
 have cb40 : Y11.cell? ⟨b4, 0, none⟩ = some (.string FM) := HY11.out.x4.cell (j := 0) rfl; have fb40 := HY11.out.x4.frz 0
 have cb33 : Y11.cell? ⟨b3, 3, none⟩ = some (.string ⟨#[]⟩) := HY11.out.x3.cell (j := 3) rfl; have fb33 := HY11.out.x3.frz 3
 go_upto_region 12 with fail
 obtain ⟨Y12, hY⟩ : ∃ Y, (Y11.setCell ⟨b3, 3, none⟩ (.string FM)) = Y := ⟨_, rfl⟩
 have HY12 : Hid (B3 w0 rb (.slice wa ws.length wc0) ws w 102 b2 b3 b4 #[.int .i64 0, .string ⟨#[]⟩, .int .i64 0, .string ⟨#[]⟩, .bool false, .int .i64 0, .int .i64 0, .int .i64 0, .int .i64 0, .int .i64 0, .int .i64 0, .int .i64 0] #[.int .i64 of_, .string RU, .int .i64 sv, .string FM, .bool false, .int .i64 0, .int .i64 0, .int .i64 0, .int .i64 0, .int .i64 0, .int .i64 0, .int .i64 0] #[.string FM, .int .i64 ln3, .int .i64 co3] s31 Y12) := Lib.hid (by rw [← hY]; exact (HY11.out.set3 3 _))
 try rw [hY]
 clear hY cb40 fb40 cb33 fb33 HY11
 obtain ⟨qf, hqf⟩ : ∃ q, fmtB (bsO FM) = q := ⟨_, rfl⟩
 have HFO : Hid (∀ W, Calls Tryz.prog 138 #[.string FM] W fun e w' => e = .returned (.bool qf) ∧ Below W.heap.size W w') := Lib.hid (by rw [← hqf]; exact fun W => format19_any FM HZ3.out W)
 rw [hqf] at HS4
 clear hqf
 obtain ⟨qx, hqx⟩ : ∃ q, (decide (s31.e = 0) && !qf) = q := ⟨_, rfl⟩
 have HQX := Lib.hid hqx
 clear hqx
 have r4 : Y12.cell? ⟨rb, 4, none⟩ = some (.int .i64 s31.e) := HY12.out.st.blk.cell (j := 4) rfl
 have cb40 : Y12.cell? ⟨b4, 0, none⟩ = some (.string FM) := HY12.out.x4.cell (j := 0) rfl; have fb40 := HY12.out.x4.frz 0
 go_cut [66] from 56 to 67 (fun u wx => u = .bool qx ∧ Hid (B3 w0 rb (.slice wa ws.length wc0) ws w 102 b2 b3 b4 #[.int .i64 0, .string ⟨#[]⟩, .int .i64 0, .string ⟨#[]⟩, .bool false, .int .i64 0, .int .i64 0, .int .i64 0, .int .i64 0, .int .i64 0, .int .i64 0, .int .i64 0] #[.int .i64 of_, .string RU, .int .i64 sv, .string FM, .bool false, .int .i64 0, .int .i64 0, .int .i64 0, .int .i64 0, .int .i64 0, .int .i64 0, .int .i64 0] #[.string FM, .int .i64 ln3, .int .i64 co3] s31 wx))
 case first =>
  obtain ⟨ee, hee⟩ : ∃ e, s31.e = e := ⟨_, rfl⟩
  rw [hee] at r4
  by_cases he : ee = 0
  ·have g1 : (ee == 0) = true := by simpa using he
   have HEZ := Lib.hid (hee.trans he)
   clear he hee
   go_wp2_with (first | (go_at_call 138; refine (HFO.out _).mono ?_; rintro e w' ⟨rfl, hb⟩; have HQ := Lib.hid (HY12.out.below hb); clear hb) | fail)
   go_meet
   exact ⟨congrArg Value.bool (by rw [← HQX.out]; simp [HEZ.out]), HQ⟩
  ·have g1 : (ee == 0) = false := by simpa using he
   have HEZ : Hid (s31.e ≠ 0) := Lib.hid (by rw [hee]; exact he)
   clear he hee
   go_wp2_with fail
   go_meet
   exact ⟨congrArg Value.bool (by rw [← HQX.out]; simp [HEZ.out]), HY12⟩
 case rest =>
 obtain ⟨rfl, HYC13⟩ := hcut
 generalize wc = YC13 at *
 clear HY12 cb40 fb40 r4
 go_upto_if 66 with fail
 go_cut [] from 67 to 71 (fun wx => Hid (B3 w0 rb (.slice wa ws.length wc0) ws w 102 b2 b3 b4 #[.int .i64 0, .string ⟨#[]⟩, .int .i64 0, .string ⟨#[]⟩, .bool false, .int .i64 0, .int .i64 0, .int .i64 0, .int .i64 0, .int .i64 0, .int .i64 0, .int .i64 0] #[.int .i64 of_, .string RU, .int .i64 sv, .string FM, .bool false, .int .i64 0, .int .i64 0, .int .i64 0, .int .i64 0, .int .i64 0, .int .i64 0, .int .i64 0] #[.string FM, .int .i64 ln3, .int .i64 co3] s4 wx))
 case first =>
  have HSB : Hid ((if qx = true then failT (ln3, co3) 3 s31 else s31) = s4) := Lib.hid (by
   rw [← HS4.out, ← HQX.out]
   by_cases h1 : s31.e = 0
   ·cases qf <;> simp [h1]
   ·simp [h1])
  have cb41 : YC13.cell? ⟨b4, 1, none⟩ = some (.int .i64 ln3) := HYC13.out.x4.cell (j := 1) rfl; have fb41 := HYC13.out.x4.frz 1
  have cb42 : YC13.cell? ⟨b4, 2, none⟩ = some (.int .i64 co3) := HYC13.out.x4.cell (j := 2) rfl; have fb42 := HYC13.out.x4.frz 2
  have HFA : Hid (∀ W, RTat w0 rb (.slice wa ws.length wc0) ws s31 W → Calls Tryz.prog 130 #[.pointer (some ⟨rb, 0, none⟩), .agg #[.int .i64 ln3, .int .i64 co3], .int .i64 3] W fun e' w' => e' = .returned (.tuple #[]) ∧ RTat w0 rb (.slice wa ws.length wc0) ws (failT (ln3, co3) 3 s31) w' ∧ W.grownBy w' (some rb)) := Lib.hid fun W hW => failR_any HC.out (ln3, co3) 3 s31 W hW
  cases qx with
  | false =>
   have HQ1 : Hid (s31 = s4) := Lib.hid ((if_neg (by simp)).symm.trans HSB.out)
   rw [HQ1.out] at HYC13
   go_wp2_with fail
   go_meet
   exact HYC13
  | true =>
   have HQ1 : Hid (failT (ln3, co3) 3 s31 = s4) := Lib.hid ((if_pos rfl).symm.trans HSB.out)
   go_wp2_with (first | (go_at_call 130; refine (HFA.out _ HYC13.out.st).mono ?_; rintro e w3 ⟨rfl, hs3, hg3⟩; rw [HQ1.out] at hs3) | fail)
   go_meet
   exact HYC13.out.meth hs3 hg3
 case rest =>
 have HYD13 := hcut
 clear hcut HYC13 HQX
 generalize wc = YD13 at *
 go_upto_region 14 with fail
 obtain ⟨qt, hqt⟩ : ∃ q, (decide (s4.e = 0) && decide (s4.n = ws.length)) = q := ⟨_, rfl⟩
 have HQT := Lib.hid hqt
 clear hqt
 go_cut [87] from 71 to 88 (fun u wx => u = .bool qt ∧ Hid (B3 w0 rb (.slice wa ws.length wc0) ws w 102 b2 b3 b4 #[.int .i64 0, .string ⟨#[]⟩, .int .i64 0, .string ⟨#[]⟩, .bool false, .int .i64 0, .int .i64 0, .int .i64 0, .int .i64 0, .int .i64 0, .int .i64 0, .int .i64 0] #[.int .i64 of_, .string RU, .int .i64 sv, .string FM, .bool false, .int .i64 0, .int .i64 0, .int .i64 0, .int .i64 0, .int .i64 0, .int .i64 0, .int .i64 0] #[.string FM, .int .i64 ln3, .int .i64 co3] s4 wx))
 case first =>
  obtain ⟨ee, hee⟩ : ∃ e, s4.e = e := ⟨_, rfl⟩
  obtain ⟨nn, hnn⟩ : ∃ n, s4.n = n := ⟨_, rfl⟩
  have r0 : YD13.cell? ⟨rb, 0, none⟩ = some (.slice wa ws.length wc0) := HYD13.out.st.blk.cell (j := 0) rfl
  have r1 : YD13.cell? ⟨rb, 1, none⟩ = some (.int .i64 s4.n) := HYD13.out.st.blk.cell (j := 1) rfl
  have r4 : YD13.cell? ⟨rb, 4, none⟩ = some (.int .i64 s4.e) := HYD13.out.st.blk.cell (j := 4) rfl
  rw [hee] at r4
  rw [hnn] at r1
  have z0 : YD13.drew.cell? ⟨rb, 0, none⟩ = some (.slice wa ws.length wc0) := r0
  have z1 : YD13.drew.cell? ⟨rb, 1, none⟩ = some (.int .i64 nn) := r1
  have z4 : YD13.drew.cell? ⟨rb, 4, none⟩ = some (.int .i64 ee) := r4
  have HYD := Lib.hid (HYD13.out.below (Below.refl _ _).drew)
  have hnl := HYD13.out.st.hi
  rw [hnn] at hnl
  by_cases he : ee = 0
  ·have g1 : (ee == 0) = true := by simpa using he
   by_cases hn : nn = ws.length
   ·have g2 : ((nn : Int) == (ws.length : Int)) = true := by rw [hn]; simp
    have HV : Hid (true = qt) := Lib.hid (by rw [← HQT.out]; simp [hee, he, hnn, hn])
    clear he hn hee hnn hnl
    go_region
    all_goals go_wp2_with fail
    all_goals go_meet
    all_goals exact ⟨congrArg Value.bool HV.out, HYD⟩
   ·have g2 : ((nn : Int) == (ws.length : Int)) = false := by simpa using (by omega : ¬(nn : Int) = (ws.length : Int))
    have HV : Hid (false = qt) := Lib.hid (by rw [← HQT.out]; simp [hee, he, hnn, hn])
    clear he hn hee hnn hnl
    go_region
    all_goals go_wp2_with fail
    all_goals go_meet
    all_goals exact ⟨congrArg Value.bool HV.out, HYD⟩
  ·have g1 : (ee == 0) = false := by simpa using he
   have HV : Hid (false = qt) := Lib.hid (by rw [← HQT.out]; simp [hee, he])
   clear he hee hnn hnl
   go_region
   all_goals go_wp2_with fail
   all_goals go_meet
   all_goals exact ⟨congrArg Value.bool HV.out, HYD⟩
 case rest =>
 obtain ⟨rfl, HYE⟩ := hcut
 generalize wc = YE at *
 clear HYD13
 go_upto_if 87 with fail
 cases qt with
 | true =>
  have hq : s4.e = 0 ∧ s4.n = ws.length := by have := HQT.out; simpa using this
  have q := HRE.out
  rw [if_pos hq] at q
  subst q
  have cb34 : YE.cell? ⟨b3, 4, none⟩ = some (.bool false) := HYE.out.x3.cell (j := 4) rfl; have fb34 := HYE.out.x3.frz 4
  have HQ0 := Lib.hid (HYE.out.set3 4 (.bool true))
  obtain ⟨ZL, hZ⟩ : ∃ Z, YE.setCell ⟨b3, 4, none⟩ (.bool true) = Z := ⟨_, rfl⟩
  rw [hZ] at HQ0
  go_upto_region 16 with fail
  try rw [hZ]
  clear hZ cb34 fb34 hq
  have cb30 : ZL.cell? ⟨b3, 0, none⟩ = some (.int .i64 of_) := HQ0.out.x3.cell (j := 0) rfl
  have cb31 : ZL.cell? ⟨b3, 1, none⟩ = some (.string RU) := HQ0.out.x3.cell (j := 1) rfl
  have cb32 : ZL.cell? ⟨b3, 2, none⟩ = some (.int .i64 sv) := HQ0.out.x3.cell (j := 2) rfl
  have cb33 : ZL.cell? ⟨b3, 3, none⟩ = some (.string FM) := HQ0.out.x3.cell (j := 3) rfl
  have cb34 : ZL.cell? ⟨b3, 4, none⟩ = some (.bool true) := HQ0.out.x3.cell (j := 4) rfl
  have cb35 : ZL.cell? ⟨b3, 5, none⟩ = some (.int .i64 0) := HQ0.out.x3.cell (j := 5) rfl
  have cb36 : ZL.cell? ⟨b3, 6, none⟩ = some (.int .i64 0) := HQ0.out.x3.cell (j := 6) rfl
  have cb37 : ZL.cell? ⟨b3, 7, none⟩ = some (.int .i64 0) := HQ0.out.x3.cell (j := 7) rfl
  have cb38 : ZL.cell? ⟨b3, 8, none⟩ = some (.int .i64 0) := HQ0.out.x3.cell (j := 8) rfl
  have cb39 : ZL.cell? ⟨b3, 9, none⟩ = some (.int .i64 0) := HQ0.out.x3.cell (j := 9) rfl
  have cb310 : ZL.cell? ⟨b3, 10, none⟩ = some (.int .i64 0) := HQ0.out.x3.cell (j := 10) rfl
  have cb311 : ZL.cell? ⟨b3, 11, none⟩ = some (.int .i64 0) := HQ0.out.x3.cell (j := 11) rfl
  have cb20 : ZL.cell? ⟨b2, 0, none⟩ = some (.int .i64 0) := HQ0.out.x2.cell (j := 0) rfl
  have fb20 := HQ0.out.x2.frz 0
  have cb21 : ZL.cell? ⟨b2, 1, none⟩ = some (.string ⟨#[]⟩) := HQ0.out.x2.cell (j := 1) rfl
  have fb21 := HQ0.out.x2.frz 1
  have cb22 : ZL.cell? ⟨b2, 2, none⟩ = some (.int .i64 0) := HQ0.out.x2.cell (j := 2) rfl
  have fb22 := HQ0.out.x2.frz 2
  have cb23 : ZL.cell? ⟨b2, 3, none⟩ = some (.string ⟨#[]⟩) := HQ0.out.x2.cell (j := 3) rfl
  have fb23 := HQ0.out.x2.frz 3
  have cb24 : ZL.cell? ⟨b2, 4, none⟩ = some (.bool false) := HQ0.out.x2.cell (j := 4) rfl
  have fb24 := HQ0.out.x2.frz 4
  have cb25 : ZL.cell? ⟨b2, 5, none⟩ = some (.int .i64 0) := HQ0.out.x2.cell (j := 5) rfl
  have fb25 := HQ0.out.x2.frz 5
  have cb26 : ZL.cell? ⟨b2, 6, none⟩ = some (.int .i64 0) := HQ0.out.x2.cell (j := 6) rfl
  have fb26 := HQ0.out.x2.frz 6
  have cb27 : ZL.cell? ⟨b2, 7, none⟩ = some (.int .i64 0) := HQ0.out.x2.cell (j := 7) rfl
  have fb27 := HQ0.out.x2.frz 7
  have cb28 : ZL.cell? ⟨b2, 8, none⟩ = some (.int .i64 0) := HQ0.out.x2.cell (j := 8) rfl
  have fb28 := HQ0.out.x2.frz 8
  have cb29 : ZL.cell? ⟨b2, 9, none⟩ = some (.int .i64 0) := HQ0.out.x2.cell (j := 9) rfl
  have fb29 := HQ0.out.x2.frz 9
  have cb210 : ZL.cell? ⟨b2, 10, none⟩ = some (.int .i64 0) := HQ0.out.x2.cell (j := 10) rfl
  have fb210 := HQ0.out.x2.frz 10
  have cb211 : ZL.cell? ⟨b2, 11, none⟩ = some (.int .i64 0) := HQ0.out.x2.cell (j := 11) rfl
  have fb211 := HQ0.out.x2.frz 11
  have HZZ : Hid (B3 w0 rb (.slice wa ws.length wc0) ws w 102 b2 b3 b4 #[.int .i64 of_, .string RU, .int .i64 sv, .string FM, .bool true, .int .i64 0, .int .i64 0, .int .i64 0, .int .i64 0, .int .i64 0, .int .i64 0, .int .i64 0] #[.int .i64 of_, .string RU, .int .i64 sv, .string FM, .bool true, .int .i64 0, .int .i64 0, .int .i64 0, .int .i64 0, .int .i64 0, .int .i64 0, .int .i64 0] #[.string FM, .int .i64 ln3, .int .i64 co3] s4 ((((((((((((ZL.setCell ⟨b2, 0, none⟩ (.int .i64 of_)).setCell ⟨b2, 1, none⟩ (.string RU)).setCell ⟨b2, 2, none⟩ (.int .i64 sv)).setCell ⟨b2, 3, none⟩ (.string FM)).setCell ⟨b2, 4, none⟩ (.bool true)).setCell ⟨b2, 5, none⟩ (.int .i64 0)).setCell ⟨b2, 6, none⟩ (.int .i64 0)).setCell ⟨b2, 7, none⟩ (.int .i64 0)).setCell ⟨b2, 8, none⟩ (.int .i64 0)).setCell ⟨b2, 9, none⟩ (.int .i64 0)).setCell ⟨b2, 10, none⟩ (.int .i64 0)).setCell ⟨b2, 11, none⟩ (.int .i64 0))) := Lib.hid (HQ0.out.copy12 (.int .i64 of_) (.string RU) (.int .i64 sv) (.string FM) (.bool true) (.int .i64 0) (.int .i64 0) (.int .i64 0) (.int .i64 0) (.int .i64 0) (.int .i64 0) (.int .i64 0))
  have hn23 : b2 ≠ b3 := HQ0.out.ne.2.2.2.1
  have hn32 : b3 ≠ b2 := Ne.symm hn23
  obtain ⟨ZZ, hZZ⟩ : ∃ Z, ((((((((((((ZL.setCell ⟨b2, 0, none⟩ (.int .i64 of_)).setCell ⟨b2, 1, none⟩ (.string RU)).setCell ⟨b2, 2, none⟩ (.int .i64 sv)).setCell ⟨b2, 3, none⟩ (.string FM)).setCell ⟨b2, 4, none⟩ (.bool true)).setCell ⟨b2, 5, none⟩ (.int .i64 0)).setCell ⟨b2, 6, none⟩ (.int .i64 0)).setCell ⟨b2, 7, none⟩ (.int .i64 0)).setCell ⟨b2, 8, none⟩ (.int .i64 0)).setCell ⟨b2, 9, none⟩ (.int .i64 0)).setCell ⟨b2, 10, none⟩ (.int .i64 0)).setCell ⟨b2, 11, none⟩ (.int .i64 0)) = Z := ⟨_, rfl⟩
  rw [hZZ] at HZZ
  have r0 : ZZ.cell? ⟨b2, 0, none⟩ = some (.int .i64 of_) := HZZ.out.x2.cell (j := 0) rfl
  have r1 : ZZ.cell? ⟨b2, 1, none⟩ = some (.string RU) := HZZ.out.x2.cell (j := 1) rfl
  have r2 : ZZ.cell? ⟨b2, 2, none⟩ = some (.int .i64 sv) := HZZ.out.x2.cell (j := 2) rfl
  have r3 : ZZ.cell? ⟨b2, 3, none⟩ = some (.string FM) := HZZ.out.x2.cell (j := 3) rfl
  have r4 : ZZ.cell? ⟨b2, 4, none⟩ = some (.bool true) := HZZ.out.x2.cell (j := 4) rfl
  have r5 : ZZ.cell? ⟨b2, 5, none⟩ = some (.int .i64 0) := HZZ.out.x2.cell (j := 5) rfl
  have r6 : ZZ.cell? ⟨b2, 6, none⟩ = some (.int .i64 0) := HZZ.out.x2.cell (j := 6) rfl
  have r7 : ZZ.cell? ⟨b2, 7, none⟩ = some (.int .i64 0) := HZZ.out.x2.cell (j := 7) rfl
  have r8 : ZZ.cell? ⟨b2, 8, none⟩ = some (.int .i64 0) := HZZ.out.x2.cell (j := 8) rfl
  have r9 : ZZ.cell? ⟨b2, 9, none⟩ = some (.int .i64 0) := HZZ.out.x2.cell (j := 9) rfl
  have r10 : ZZ.cell? ⟨b2, 10, none⟩ = some (.int .i64 0) := HZZ.out.x2.cell (j := 10) rfl
  have r11 : ZZ.cell? ⟨b2, 11, none⟩ = some (.int .i64 0) := HZZ.out.x2.cell (j := 11) rfl
  go_wp2_with fail
  refine bodyPost_ret (v := .agg #[.int .i64 of_, .string RU, .int .i64 sv, .string FM, .bool true, .int .i64 0, .int .i64 0, .int .i64 0, .int .i64 0, .int .i64 0, .int .i64 0, .int .i64 0]) (by simp [results, Tryz.results58, go_sem, r0, r1, r2, r3, r4, r5, r6, r7, r8, r9, r10, r11]) rfl ?_
  exact ⟨rfl, HZZ.out.st, HZZ.out.gr⟩
 | false =>
 have hq : ¬(s4.e = 0 ∧ s4.n = ws.length) := by have := HQT.out; simpa using this
 have HRF := Lib.hid ((if_neg hq).symm.trans HRE.out)
 clear hq
 go_upto_region 18 with (first | (go_at_call 53; refine (HC6.out _ HYE.out.st).mono ?_; rintro e w1 ⟨rfl, hs1, hg1⟩; obtain ⟨VC, hV⟩ : ∃ V, w1 = V := ⟨_, rfl⟩; rw [hV] at hs1 hg1 ⊢; clear hV; have HVC := Lib.hid (HYE.out.meth hs1 hg1); have cb40 : VC.cell? ⟨b4, 0, none⟩ = some (.string FM) := HVC.out.x4.cell (j := 0) rfl; have fb40 := HVC.out.x4.frz 0; have cb41 : VC.cell? ⟨b4, 1, none⟩ = some (.int .i64 ln3) := HVC.out.x4.cell (j := 1) rfl; have fb41 := HVC.out.x4.frz 1; have cb42 : VC.cell? ⟨b4, 2, none⟩ = some (.int .i64 co3) := HVC.out.x4.cell (j := 2) rfl; have fb42 := HVC.out.x4.frz 2; clear hs1 hg1) | fail)
 obtain ⟨Y14, hY⟩ : ∃ Y, (((VC.setCell ⟨b4, 0, none⟩ (.string T5)).setCell ⟨b4, 1, none⟩ (.int .i64 ln5)).setCell ⟨b4, 2, none⟩ (.int .i64 co5)) = Y := ⟨_, rfl⟩
 have HY14 : Hid (B3 w0 rb (.slice wa ws.length wc0) ws w 102 b2 b3 b4 #[.int .i64 0, .string ⟨#[]⟩, .int .i64 0, .string ⟨#[]⟩, .bool false, .int .i64 0, .int .i64 0, .int .i64 0, .int .i64 0, .int .i64 0, .int .i64 0, .int .i64 0] #[.int .i64 of_, .string RU, .int .i64 sv, .string FM, .bool false, .int .i64 0, .int .i64 0, .int .i64 0, .int .i64 0, .int .i64 0, .int .i64 0, .int .i64 0] #[.string T5, .int .i64 ln5, .int .i64 co5] s41 Y14) := Lib.hid (by rw [← hY]; exact (((HVC.out.set4 0 _).set4 1 _).set4 2 _))
 try rw [hY]
 clear hY cb40 cb41 cb42 fb40 fb41 fb42 HYE HVC
 obtain ⟨qu, hqu⟩ : ∃ q, untB (bsO T5) = q := ⟨_, rfl⟩
 have HUB := Lib.hid hqu
 rw [hqu] at HT5
 clear hqu
 obtain ⟨qx, hqx⟩ : ∃ q, (decide (s41.e = 0) && !qu) = q := ⟨_, rfl⟩
 have HQX := Lib.hid hqx
 clear hqx
 have r4 : Y14.cell? ⟨rb, 4, none⟩ = some (.int .i64 s41.e) := HY14.out.st.blk.cell (j := 4) rfl
 have cb40 : Y14.cell? ⟨b4, 0, none⟩ = some (.string T5) := HY14.out.x4.cell (j := 0) rfl; have fb40 := HY14.out.x4.frz 0
 go_cut [101] from 92 to 102 (fun u wx => u = .bool qx ∧ Hid (B3 w0 rb (.slice wa ws.length wc0) ws w 102 b2 b3 b4 #[.int .i64 0, .string ⟨#[]⟩, .int .i64 0, .string ⟨#[]⟩, .bool false, .int .i64 0, .int .i64 0, .int .i64 0, .int .i64 0, .int .i64 0, .int .i64 0, .int .i64 0] #[.int .i64 of_, .string RU, .int .i64 sv, .string FM, .bool false, .int .i64 0, .int .i64 0, .int .i64 0, .int .i64 0, .int .i64 0, .int .i64 0, .int .i64 0] #[.string T5, .int .i64 ln5, .int .i64 co5] s41 wx))
 case first =>
  obtain ⟨ee, hee⟩ : ∃ e, s41.e = e := ⟨_, rfl⟩
  rw [hee] at r4
  by_cases he : ee = 0
  ·have g1 : (ee == 0) = true := by simpa using he
   have HEZ := Lib.hid (hee.trans he)
   clear he hee
   go_wp2_with fail
   go_meet
   exact ⟨congrArg Value.bool (by rw [← HQX.out, ← HUB.out]; unfold untB; rw [← dash_eq]; simp [HEZ.out]), HY14⟩
  ·have g1 : (ee == 0) = false := by simpa using he
   have HEZ : Hid (s41.e ≠ 0) := Lib.hid (by rw [hee]; exact he)
   clear he hee
   go_wp2_with fail
   go_meet
   exact ⟨congrArg Value.bool (by rw [← HQX.out]; simp [HEZ.out]), HY14⟩
 case rest =>
 obtain ⟨rfl, HYC15⟩ := hcut
 generalize wc = YC15 at *
 clear HY14 cb40 fb40 r4
 go_upto_if 101 with fail
 go_cut [] from 102 to 106 (fun wx => Hid (B3 w0 rb (.slice wa ws.length wc0) ws w 102 b2 b3 b4 #[.int .i64 0, .string ⟨#[]⟩, .int .i64 0, .string ⟨#[]⟩, .bool false, .int .i64 0, .int .i64 0, .int .i64 0, .int .i64 0, .int .i64 0, .int .i64 0, .int .i64 0] #[.int .i64 of_, .string RU, .int .i64 sv, .string FM, .bool false, .int .i64 0, .int .i64 0, .int .i64 0, .int .i64 0, .int .i64 0, .int .i64 0, .int .i64 0] #[.string T5, .int .i64 ln5, .int .i64 co5] s5 wx))
 case first =>
  have HSB : Hid ((if qx = true then failT (ln5, co5) 3 s41 else s41) = s5) := Lib.hid (by
   rw [← HT5.out, ← HQX.out]
   by_cases h1 : s41.e = 0
   ·cases qu <;> simp [h1]
   ·simp [h1])
  have cb41 : YC15.cell? ⟨b4, 1, none⟩ = some (.int .i64 ln5) := HYC15.out.x4.cell (j := 1) rfl; have fb41 := HYC15.out.x4.frz 1
  have cb42 : YC15.cell? ⟨b4, 2, none⟩ = some (.int .i64 co5) := HYC15.out.x4.cell (j := 2) rfl; have fb42 := HYC15.out.x4.frz 2
  have HFA : Hid (∀ W, RTat w0 rb (.slice wa ws.length wc0) ws s41 W → Calls Tryz.prog 130 #[.pointer (some ⟨rb, 0, none⟩), .agg #[.int .i64 ln5, .int .i64 co5], .int .i64 3] W fun e' w' => e' = .returned (.tuple #[]) ∧ RTat w0 rb (.slice wa ws.length wc0) ws (failT (ln5, co5) 3 s41) w' ∧ W.grownBy w' (some rb)) := Lib.hid fun W hW => failR_any HC.out (ln5, co5) 3 s41 W hW
  cases qx with
  | false =>
   have HQ1 : Hid (s41 = s5) := Lib.hid ((if_neg (by simp)).symm.trans HSB.out)
   rw [HQ1.out] at HYC15
   go_wp2_with fail
   go_meet
   exact HYC15
  | true =>
   have HQ1 : Hid (failT (ln5, co5) 3 s41 = s5) := Lib.hid ((if_pos rfl).symm.trans HSB.out)
   go_wp2_with (first | (go_at_call 130; refine (HFA.out _ HYC15.out.st).mono ?_; rintro e w3 ⟨rfl, hs3, hg3⟩; rw [HQ1.out] at hs3) | fail)
   go_meet
   exact HYC15.out.meth hs3 hg3
 case rest =>
 have HYD15 := hcut
 clear hcut HYC15 HQX
 generalize wc = YD15 at *
 go_upto_region 21 with (first | (go_at_call 131; refine (HC7.out _ HYD15.out.st).mono ?_; rintro e w1 ⟨rfl, hs1, hg1⟩; obtain ⟨VD, hV⟩ : ∃ V, w1 = V := ⟨_, rfl⟩; rw [hV] at hs1 hg1 ⊢; clear hV; have HVD := Lib.hid (HYD15.out.meth hs1 hg1); have cb35 : VD.cell? ⟨b3, 5, none⟩ = some (.int .i64 0) := HVD.out.x3.cell (j := 5) rfl; have fb35 := HVD.out.x3.frz 5; clear hs1 hg1) | fail)
 obtain ⟨Y16, hY⟩ : ∃ Y, (VD.setCell ⟨b3, 5, none⟩ (.int .i64 yr)) = Y := ⟨_, rfl⟩
 have HY16 : Hid (B3 w0 rb (.slice wa ws.length wc0) ws w 102 b2 b3 b4 #[.int .i64 0, .string ⟨#[]⟩, .int .i64 0, .string ⟨#[]⟩, .bool false, .int .i64 0, .int .i64 0, .int .i64 0, .int .i64 0, .int .i64 0, .int .i64 0, .int .i64 0] #[.int .i64 of_, .string RU, .int .i64 sv, .string FM, .bool false, .int .i64 yr, .int .i64 0, .int .i64 0, .int .i64 0, .int .i64 0, .int .i64 0, .int .i64 0] #[.string T5, .int .i64 ln5, .int .i64 co5] s6 Y16) := Lib.hid (by rw [← hY]; exact (HVD.out.set3 5 _))
 try rw [hY]
 clear hY cb35 fb35 HYD15 HVD
 go_upto_region 22 with (first | (go_at_call 133; refine (HC8.out _ HY16.out.st).mono ?_; rintro e w1 ⟨rfl, hs1, hg1⟩; obtain ⟨VE, hV⟩ : ∃ V, w1 = V := ⟨_, rfl⟩; rw [hV] at hs1 hg1 ⊢; clear hV; have HVE := Lib.hid (HY16.out.meth hs1 hg1); have cb36 : VE.cell? ⟨b3, 6, none⟩ = some (.int .i64 0) := HVE.out.x3.cell (j := 6) rfl; have fb36 := HVE.out.x3.frz 6; clear hs1 hg1) | fail)
 obtain ⟨Y17, hY⟩ : ∃ Y, (VE.setCell ⟨b3, 6, none⟩ (.int .i64 mo)) = Y := ⟨_, rfl⟩
 have HY17 : Hid (B3 w0 rb (.slice wa ws.length wc0) ws w 102 b2 b3 b4 #[.int .i64 0, .string ⟨#[]⟩, .int .i64 0, .string ⟨#[]⟩, .bool false, .int .i64 0, .int .i64 0, .int .i64 0, .int .i64 0, .int .i64 0, .int .i64 0, .int .i64 0] #[.int .i64 of_, .string RU, .int .i64 sv, .string FM, .bool false, .int .i64 yr, .int .i64 mo, .int .i64 0, .int .i64 0, .int .i64 0, .int .i64 0, .int .i64 0] #[.string T5, .int .i64 ln5, .int .i64 co5] s7 Y17) := Lib.hid (by rw [← hY]; exact (HVE.out.set3 6 _))
 try rw [hY]
 clear hY cb36 fb36 HY16 HVE
 have cb36 : Y17.cell? ⟨b3, 6, none⟩ = some (.int .i64 mo) := HY17.out.x3.cell (j := 6) rfl; have fb36 := HY17.out.x3.frz 6
 go_upto_region 23 with (first | (go_at_call 134; refine (HC9.out _ HY17.out.st).mono ?_; rintro e w1 ⟨rfl, hs1, hg1⟩; obtain ⟨VF, hV⟩ : ∃ V, w1 = V := ⟨_, rfl⟩; rw [hV] at hs1 hg1 ⊢; clear hV; have HVF := Lib.hid (HY17.out.meth hs1 hg1); have cb37 : VF.cell? ⟨b3, 7, none⟩ = some (.int .i64 0) := HVF.out.x3.cell (j := 7) rfl; have fb37 := HVF.out.x3.frz 7; have cb38 : VF.cell? ⟨b3, 8, none⟩ = some (.int .i64 0) := HVF.out.x3.cell (j := 8) rfl; have fb38 := HVF.out.x3.frz 8; have cb39 : VF.cell? ⟨b3, 9, none⟩ = some (.int .i64 0) := HVF.out.x3.cell (j := 9) rfl; have fb39 := HVF.out.x3.frz 9; clear hs1 hg1) | fail)
 obtain ⟨Y18, hY⟩ : ∃ Y, (((VF.setCell ⟨b3, 7, none⟩ (.int .i64 k)).setCell ⟨b3, 8, none⟩ (.int .i64 v)).setCell ⟨b3, 9, none⟩ (.int .i64 d)) = Y := ⟨_, rfl⟩
 have HY18 : Hid (B3 w0 rb (.slice wa ws.length wc0) ws w 102 b2 b3 b4 #[.int .i64 0, .string ⟨#[]⟩, .int .i64 0, .string ⟨#[]⟩, .bool false, .int .i64 0, .int .i64 0, .int .i64 0, .int .i64 0, .int .i64 0, .int .i64 0, .int .i64 0] #[.int .i64 of_, .string RU, .int .i64 sv, .string FM, .bool false, .int .i64 yr, .int .i64 mo, .int .i64 k, .int .i64 v, .int .i64 d, .int .i64 0, .int .i64 0] #[.string T5, .int .i64 ln5, .int .i64 co5] s8 Y18) := Lib.hid (by rw [← hY]; exact (((HVF.out.set3 7 _).set3 8 _).set3 9 _))
 try rw [hY]
 clear hY cb36 fb36 cb37 cb38 cb39 fb37 fb38 fb39 HY17 HVF
 go_upto_region 24 with (first | (go_at_call 135; refine (HC10.out _ HY18.out.st).mono ?_; rintro e w1 ⟨rfl, hs1, hg1⟩; obtain ⟨VH, hV⟩ : ∃ V, w1 = V := ⟨_, rfl⟩; rw [hV] at hs1 hg1 ⊢; clear hV; have HVH := Lib.hid (HY18.out.meth hs1 hg1); have cb310 : VH.cell? ⟨b3, 10, none⟩ = some (.int .i64 0) := HVH.out.x3.cell (j := 10) rfl; have fb310 := HVH.out.x3.frz 10; have cb311 : VH.cell? ⟨b3, 11, none⟩ = some (.int .i64 0) := HVH.out.x3.cell (j := 11) rfl; have fb311 := HVH.out.x3.frz 11; clear hs1 hg1) | fail)
 obtain ⟨Y19, hY⟩ : ∃ Y, ((VH.setCell ⟨b3, 10, none⟩ (.int .i64 at_)).setCell ⟨b3, 11, none⟩ (.int .i64 ck)) = Y := ⟨_, rfl⟩
 have HY19 : Hid (B3 w0 rb (.slice wa ws.length wc0) ws w 102 b2 b3 b4 #[.int .i64 0, .string ⟨#[]⟩, .int .i64 0, .string ⟨#[]⟩, .bool false, .int .i64 0, .int .i64 0, .int .i64 0, .int .i64 0, .int .i64 0, .int .i64 0, .int .i64 0] #[.int .i64 of_, .string RU, .int .i64 sv, .string FM, .bool false, .int .i64 yr, .int .i64 mo, .int .i64 k, .int .i64 v, .int .i64 d, .int .i64 at_, .int .i64 ck] #[.string T5, .int .i64 ln5, .int .i64 co5] s9 Y19) := Lib.hid (by rw [← hY]; exact ((HVH.out.set3 10 _).set3 11 _))
 try rw [hY]
 clear hY cb310 cb311 fb310 fb311 HY18 HVH
 have hrf := HRF.out
 subst hrf
 go_upto_region 25 with (first | (go_at_call 56; refine (HC11.out _ HY19.out.st).mono ?_; rintro e w1 ⟨rfl, hs1, hg1⟩; obtain ⟨VG, hV⟩ : ∃ V, w1 = V := ⟨_, rfl⟩; rw [hV] at hs1 hg1 ⊢; clear hV; have HVG := Lib.hid (HY19.out.meth hs1 hg1); clear hs1 hg1) | fail)
 have cb30 : VG.cell? ⟨b3, 0, none⟩ = some (.int .i64 of_) := HVG.out.x3.cell (j := 0) rfl
 have cb31 : VG.cell? ⟨b3, 1, none⟩ = some (.string RU) := HVG.out.x3.cell (j := 1) rfl
 have cb32 : VG.cell? ⟨b3, 2, none⟩ = some (.int .i64 sv) := HVG.out.x3.cell (j := 2) rfl
 have cb33 : VG.cell? ⟨b3, 3, none⟩ = some (.string FM) := HVG.out.x3.cell (j := 3) rfl
 have cb34 : VG.cell? ⟨b3, 4, none⟩ = some (.bool false) := HVG.out.x3.cell (j := 4) rfl
 have cb35 : VG.cell? ⟨b3, 5, none⟩ = some (.int .i64 yr) := HVG.out.x3.cell (j := 5) rfl
 have cb36 : VG.cell? ⟨b3, 6, none⟩ = some (.int .i64 mo) := HVG.out.x3.cell (j := 6) rfl
 have cb37 : VG.cell? ⟨b3, 7, none⟩ = some (.int .i64 k) := HVG.out.x3.cell (j := 7) rfl
 have cb38 : VG.cell? ⟨b3, 8, none⟩ = some (.int .i64 v) := HVG.out.x3.cell (j := 8) rfl
 have cb39 : VG.cell? ⟨b3, 9, none⟩ = some (.int .i64 d) := HVG.out.x3.cell (j := 9) rfl
 have cb310 : VG.cell? ⟨b3, 10, none⟩ = some (.int .i64 at_) := HVG.out.x3.cell (j := 10) rfl
 have cb311 : VG.cell? ⟨b3, 11, none⟩ = some (.int .i64 ck) := HVG.out.x3.cell (j := 11) rfl
 have cb20 : VG.cell? ⟨b2, 0, none⟩ = some (.int .i64 0) := HVG.out.x2.cell (j := 0) rfl
 have fb20 := HVG.out.x2.frz 0
 have cb21 : VG.cell? ⟨b2, 1, none⟩ = some (.string ⟨#[]⟩) := HVG.out.x2.cell (j := 1) rfl
 have fb21 := HVG.out.x2.frz 1
 have cb22 : VG.cell? ⟨b2, 2, none⟩ = some (.int .i64 0) := HVG.out.x2.cell (j := 2) rfl
 have fb22 := HVG.out.x2.frz 2
 have cb23 : VG.cell? ⟨b2, 3, none⟩ = some (.string ⟨#[]⟩) := HVG.out.x2.cell (j := 3) rfl
 have fb23 := HVG.out.x2.frz 3
 have cb24 : VG.cell? ⟨b2, 4, none⟩ = some (.bool false) := HVG.out.x2.cell (j := 4) rfl
 have fb24 := HVG.out.x2.frz 4
 have cb25 : VG.cell? ⟨b2, 5, none⟩ = some (.int .i64 0) := HVG.out.x2.cell (j := 5) rfl
 have fb25 := HVG.out.x2.frz 5
 have cb26 : VG.cell? ⟨b2, 6, none⟩ = some (.int .i64 0) := HVG.out.x2.cell (j := 6) rfl
 have fb26 := HVG.out.x2.frz 6
 have cb27 : VG.cell? ⟨b2, 7, none⟩ = some (.int .i64 0) := HVG.out.x2.cell (j := 7) rfl
 have fb27 := HVG.out.x2.frz 7
 have cb28 : VG.cell? ⟨b2, 8, none⟩ = some (.int .i64 0) := HVG.out.x2.cell (j := 8) rfl
 have fb28 := HVG.out.x2.frz 8
 have cb29 : VG.cell? ⟨b2, 9, none⟩ = some (.int .i64 0) := HVG.out.x2.cell (j := 9) rfl
 have fb29 := HVG.out.x2.frz 9
 have cb210 : VG.cell? ⟨b2, 10, none⟩ = some (.int .i64 0) := HVG.out.x2.cell (j := 10) rfl
 have fb210 := HVG.out.x2.frz 10
 have cb211 : VG.cell? ⟨b2, 11, none⟩ = some (.int .i64 0) := HVG.out.x2.cell (j := 11) rfl
 have fb211 := HVG.out.x2.frz 11
 have HZZ : Hid (B3 w0 rb (.slice wa ws.length wc0) ws w 102 b2 b3 b4 #[.int .i64 of_, .string RU, .int .i64 sv, .string FM, .bool false, .int .i64 yr, .int .i64 mo, .int .i64 k, .int .i64 v, .int .i64 d, .int .i64 at_, .int .i64 ck] #[.int .i64 of_, .string RU, .int .i64 sv, .string FM, .bool false, .int .i64 yr, .int .i64 mo, .int .i64 k, .int .i64 v, .int .i64 d, .int .i64 at_, .int .i64 ck] #[.string T5, .int .i64 ln5, .int .i64 co5] s10 ((((((((((((VG.setCell ⟨b2, 0, none⟩ (.int .i64 of_)).setCell ⟨b2, 1, none⟩ (.string RU)).setCell ⟨b2, 2, none⟩ (.int .i64 sv)).setCell ⟨b2, 3, none⟩ (.string FM)).setCell ⟨b2, 4, none⟩ (.bool false)).setCell ⟨b2, 5, none⟩ (.int .i64 yr)).setCell ⟨b2, 6, none⟩ (.int .i64 mo)).setCell ⟨b2, 7, none⟩ (.int .i64 k)).setCell ⟨b2, 8, none⟩ (.int .i64 v)).setCell ⟨b2, 9, none⟩ (.int .i64 d)).setCell ⟨b2, 10, none⟩ (.int .i64 at_)).setCell ⟨b2, 11, none⟩ (.int .i64 ck))) := Lib.hid (HVG.out.copy12 (.int .i64 of_) (.string RU) (.int .i64 sv) (.string FM) (.bool false) (.int .i64 yr) (.int .i64 mo) (.int .i64 k) (.int .i64 v) (.int .i64 d) (.int .i64 at_) (.int .i64 ck))
 have hn23 : b2 ≠ b3 := HVG.out.ne.2.2.2.1
 have hn32 : b3 ≠ b2 := Ne.symm hn23
 obtain ⟨ZZ, hZZ⟩ : ∃ Z, ((((((((((((VG.setCell ⟨b2, 0, none⟩ (.int .i64 of_)).setCell ⟨b2, 1, none⟩ (.string RU)).setCell ⟨b2, 2, none⟩ (.int .i64 sv)).setCell ⟨b2, 3, none⟩ (.string FM)).setCell ⟨b2, 4, none⟩ (.bool false)).setCell ⟨b2, 5, none⟩ (.int .i64 yr)).setCell ⟨b2, 6, none⟩ (.int .i64 mo)).setCell ⟨b2, 7, none⟩ (.int .i64 k)).setCell ⟨b2, 8, none⟩ (.int .i64 v)).setCell ⟨b2, 9, none⟩ (.int .i64 d)).setCell ⟨b2, 10, none⟩ (.int .i64 at_)).setCell ⟨b2, 11, none⟩ (.int .i64 ck)) = Z := ⟨_, rfl⟩
 rw [hZZ] at HZZ
 have r0 : ZZ.cell? ⟨b2, 0, none⟩ = some (.int .i64 of_) := HZZ.out.x2.cell (j := 0) rfl
 have r1 : ZZ.cell? ⟨b2, 1, none⟩ = some (.string RU) := HZZ.out.x2.cell (j := 1) rfl
 have r2 : ZZ.cell? ⟨b2, 2, none⟩ = some (.int .i64 sv) := HZZ.out.x2.cell (j := 2) rfl
 have r3 : ZZ.cell? ⟨b2, 3, none⟩ = some (.string FM) := HZZ.out.x2.cell (j := 3) rfl
 have r4 : ZZ.cell? ⟨b2, 4, none⟩ = some (.bool false) := HZZ.out.x2.cell (j := 4) rfl
 have r5 : ZZ.cell? ⟨b2, 5, none⟩ = some (.int .i64 yr) := HZZ.out.x2.cell (j := 5) rfl
 have r6 : ZZ.cell? ⟨b2, 6, none⟩ = some (.int .i64 mo) := HZZ.out.x2.cell (j := 6) rfl
 have r7 : ZZ.cell? ⟨b2, 7, none⟩ = some (.int .i64 k) := HZZ.out.x2.cell (j := 7) rfl
 have r8 : ZZ.cell? ⟨b2, 8, none⟩ = some (.int .i64 v) := HZZ.out.x2.cell (j := 8) rfl
 have r9 : ZZ.cell? ⟨b2, 9, none⟩ = some (.int .i64 d) := HZZ.out.x2.cell (j := 9) rfl
 have r10 : ZZ.cell? ⟨b2, 10, none⟩ = some (.int .i64 at_) := HZZ.out.x2.cell (j := 10) rfl
 have r11 : ZZ.cell? ⟨b2, 11, none⟩ = some (.int .i64 ck) := HZZ.out.x2.cell (j := 11) rfl
 go_wp2_with fail
 refine bodyPost_ret (v := .agg #[.int .i64 of_, .string RU, .int .i64 sv, .string FM, .bool false, .int .i64 yr, .int .i64 mo, .int .i64 k, .int .i64 v, .int .i64 d, .int .i64 at_, .int .i64 ck]) (by simp [results, Tryz.results58, go_sem, r0, r1, r2, r3, r4, r5, r6, r7, r8, r9, r10, r11]) rfl ?_
 exact ⟨rfl, HZZ.out.st, HZZ.out.gr⟩
end Go.Proofs.YtlbglinpgjlbkaaGreatDoor
