import Derived.Test.YtlbjfbpejomkmaaGreatWkAgQi
import Derived.Test.YtlbjfbpejomkmaaGreatWkRg2
/- Agenda: the reference's step. -/
namespace Go.Proofs.YtlbjfbpejomkmaaGreat
open Go.RowKit Wk

set_option maxRecDepth 100000 in
set_option maxHeartbeats 32000000 in
theorem step48_any (w0 : World) (b : Nat) (vl vR : Value) (start : Int) (L : List Kv) (R : List Sw) (hC : StCtx w0 b vl vR start L R) : ∀ (n : Nat) (dn : List Nat) (d : List Bool) (e : List Int) (a : List Sp) (left : Int) (vd va : Value) (W : World),
  StSt w0 b vl vR start L R W vd va left dn d e a → d.count false = n → dn.length + n = L.length →
  Calls Tryz.prog 48 #[.pointer (some ⟨b, 0, none⟩), vd, va] W (StPost w0 b vl vR start (runM (tks L) (sts R) start n d e a left) W) := by
 intro n
 induction n with
 | zero =>
  intro dn d e a left vd va W hR hd hn
  obtain ⟨al, ac, rfl, _, _⟩ := hC.hL
  have hS := hR.S
  have HA := Lib.hid hR.A.rd
  obtain ⟨ad, cd, rfl, _, _⟩ := hR.D
  obtain ⟨aa, ca, rfl, _, _⟩ := hR.A
  have c0 := hS.c0
  have hdl : dn.length = L.length := by omega
  have HDL := Lib.hid hdl
  rw [natI_length, hdl]
  clear hC hR hS hd hn hdl
  go_enter Tryz.func48, Tryz.ntmps48
  go_wp2
  go_ret2
  exact ⟨_, _, rfl, K3.refl _ _ _ _ _, rfl, HA.out⟩
 | succ n ih =>
  intro dn d e a left vd va W hR hd hn
  have hq : Hid (∀ Q, Q = readyM (tks L) d → runM (tks L) (sts R) start (n + 1) d e a left = tryM (runM (tks L) (sts R) start n) (tks L) (sts R) start d e a Q left) := fun Q h => by rw [h]; rfl
  obtain ⟨r, hr⟩ : ∃ r, runM (tks L) (sts R) start (n + 1) d e a left = r := ⟨_, rfl⟩
  rw [hr]
  have HRE := Lib.hid hr
  have HIND := Lib.hid ih
  have HC := Lib.hid hC
  have HR := Lib.hid hR
  have HD := Lib.hid hd
  have HNN := Lib.hid hn
  have hblt : b < W.heap.size := World.block_lt_of_cell? W ⟨b, 0, none⟩ hR.S.c0
  obtain ⟨ad, cd, rfl, _, _⟩ := hR.D
  obtain ⟨aa, ca, rfl, _, _⟩ := hR.A
  obtain ⟨al, ac, hvl, _, _⟩ := hC.hL
  have c0 := hR.S.c0
  rw [hvl] at c0
  have HRY : Hid (Calls Tryz.prog 77 #[vl, .slice ad (natI dn).length cd] W (RyPost (tks L) d W)) :=
   ready48_any vl _ L dn d W (hC.hL.below hR.B) hR.D.rd (ends_has hR.E) hC.len.1 (fun i hi j hj => (hC.hv.af i (by rw [tks_length]; exact hi) j hj).1)
  rw [hvl] at HRY
  have HLT := Lib.hid hblt
  have hpe : ((dn.length : Int) == (L.length : Int)) = false := by simp; omega
  have HVL := Lib.hid hvl
  rw [natI_length] at *
  clear ih hC hR hr hd hblt hn
  go_enter Tryz.func48, Tryz.ntmps48
  go_wp2_with fail
  refine HRY.out.mono ?_
  rintro e1 w1 ⟨v, rfl, ho, hb1⟩
  obtain ⟨Q, hQ⟩ : ∃ Q, readyM (tks L) d = Q := ⟨_, rfl⟩
  rw [hQ] at ho
  have HT0 : Hid (tryM (runM (tks L) (sts R) start n) (tks L) (sts R) start d e a Q left = r) := by
   unfold Hid
   rw [← hq.out Q hQ.symm, HRE.out]
  have HQ := Lib.hid hQ
  have hk1 : K3 w0.heap.size b b b W w1 := K3.of HR.out.B.size hb1
  have hQl : Q.length ≤ 24 := by
   have h1 := frL_len (tks L) d L.length
   have h2 := (ready_sorted (tks L) d).2.length_eq
   rw [hQ] at h2
   unfold frL at h1
   rw [tks_length] at h2
   have := HC.out.len
   omega
  have hv3 := ho.rd3 (b := b) (ba := b) (bd := b) HLT.out HLT.out HLT.out (by rw [natI_length]; omega)
  obtain ⟨a8, c8, rfl, _, hv8⟩ := hv3
  rw [natI_length] at hv8
  have HV8 := Lib.hid hv8
  have HK1 := Lib.hid hk1
  have HS1 := Lib.hid (HR.out.S.below hb1)
  clear hq hQ ho hb1 hk1 hv8 HRY c0
  go_wp2_with fail
  go_loopw [9] (fun u wr => ∃ (m : Nat) (lm : Int), u = .int .i64 m ∧ m ≤ Q.length ∧ Hid (SeW wr b vl vR start lm) ∧ Hid (K3 w0.heap.size b b b w1 wr) ∧ Hid (tryM (runM (tks L) (sts R) start n) (tks L) (sts R) start d e a (Q.drop m) lm = r) ∧ Hid (0 ≤ lm ∧ lm ≤ 1000000)) (fun u _ => Q.length - (intOf u).toNat)
  case atStart => exact ⟨0, left, rfl, Nat.zero_le _, HS1.out, K3.refl _ _ _ _ _, by rw [List.drop_zero]; exact HT0.out, HR.out.l0⟩
  case round =>
   obtain ⟨m, lm, rfl, hm, HSm, HKm, HTm, HLm⟩ := hrel
   rw [natI_length] at *
   by_cases hlt : m < Q.length
   ·obtain ⟨g8, o8, rfl, hn8, q8⟩ := HV8.out m hlt
    rw [natI_getD] at q8
    have v8 := HKm.out.cell hn8.1 hn8.1 hn8.1 q8
    obtain ⟨i, hi⟩ : ∃ i, Q.getD m 0 = i := ⟨_, rfl⟩
    have him : i ∈ readyM (tks L) d := by
     rw [HQ.out, ← hi, List.getD_eq_getElem?_getD, List.getElem?_eq_getElem hlt]
     exact List.getElem_mem hlt
    obtain ⟨hil, hif⟩ := ready_mem.1 him
    rw [tks_length] at hil
    have HTm' := HTm.out
    rw [drop_cons hlt, hi] at HTm'
    have HTC := Lib.hid HTm'
    rw [hi] at v8
    have HIF := Lib.hid hif
    have HV := Lib.hid v8
    have HG8 : Hid (g8 ≠ b) := hn8.1
    clear hn8 q8 hi him hif HTm' HTm
    have c3 := HSm.out.c3
    by_cases hl0 : lm = 0
    ·subst hl0
     have hro : Rs.out = r := by rw [← HTC.out]; exact try_out.symm
     subst hro
     have hK' := Lib.hid (HK1.out.trans HKm.out)
     go_wp2
     go_ret2
     exact ⟨_, _, rfl, hK'.out, rfl, rfl⟩
    ·have g0 : (lm == 0) = false := by simpa using hl0
     have hlr := HLm.out
     have f3 := HSm.out.f3
     have hks : K3 w0.heap.size b b b wr (wr.setCell ⟨b, 3, none⟩ (.int .i64 (lm - 1))) := K3.set (o := 3) wr (.int .i64 (lm - 1)) HC.out.bs (Or.inl rfl)
     have HKa := Lib.hid (HKm.out.trans hks)
     have HSa := Lib.hid (HSm.out.setLeft (lm - 1))
     have HL0 : Hid (lm ≠ 0) := hl0
     have HLa : Hid (0 ≤ lm - 1 ∧ lm - 1 ≤ 1000000) := by unfold Hid; omega
     clear hl0 hks v8
     go_upto_region 10 with fail
     generalize hX : wr.setCell ⟨b, 3, none⟩ (.int .i64 (lm - 1)) = X at *
     have HVX : Hid (X.cell? ⟨g8, o8 + m, none⟩ = some (.int .i64 (i : Nat))) := by
      unfold Hid
      rw [← hX, cell_ne (Or.inl (fun h => HG8.out h.symm))]
      exact HV.out
     clear hX c3 f3 hlr
     obtain ⟨al', ac', hvl', _, hcl⟩ := HC.out.hL.below (HR.out.B.trans (HK1.out.trans HKa.out).1)
     rw [HVL.out] at hvl'
     cases hvl'
     obtain ⟨hj, bl, ol, rfl, q0, q1, q2, q3, q4⟩ := hcl i hil
     obtain ⟨x, hx⟩ : ∃ x, L.getD i kv0 = x := ⟨_, rfl⟩
     rw [hx] at hj q0 q1 q2 q3 q4
     obtain ⟨ax, nx, ex⟩ := hj.form
     rw [ex] at q3 hj
     have HXE := Lib.hid hx
     have HJ := Lib.hid hj
     obtain ⟨ρ, hρ⟩ : ∃ ρ : Nat, reOf (tks L) i = ρ := ⟨_, rfl⟩
     have hrs := HC.out.hv.rs i (by rw [tks_length]; exact hil)
     have hρ1 : x.1.rs = (ρ : Int) := by
      rw [← hρ]
      unfold reOf
      rw [tks_at, HXE.out]
      rw [tks_at, HXE.out] at hrs
      omega
     have hρ2 : ρ < R.length := by rw [← hρ]; have := hrs.2; rwa [sts_length] at this
     have HRO := Lib.hid (And.intro hρ (And.intro hρ1 hρ2))
     rw [hρ1] at q2
     have HT := Lib.hid (And.intro q0 (And.intro q1 (And.intro q2 (And.intro q3 q4))))
     have HX0 := Lib.hid HSa.out.c0
     have HIL : Hid (i < L.length) := hil
     have HLT8 : Hid (m < Q.length) := hlt
     clear hcl hx hj ex q0 q1 q2 q3 q4 hρ hρ1 hρ2 hrs
     refine wp_region_any (by kernel_rfl) ?_
     change wpAny _ _ _ _ _ _ _ X.drew
     obtain ⟨I, HIe⟩ : ∃ I : Array Bool → Act → World → Prop, I = fun (ls : Array Bool) (a9 : Act) (w9 : World) => ∃  (u50 u51 u52 u53 u54 u55 u56 u57 u58 u59 u10 : Value), ls.size = 12 ∧ a9 = ⟨#[(Value.pointer (some { block := b, off := 0 })), (Value.slice ad dn.length cd), (Value.slice aa a.length ca), undef, undef, undef, (u6), (u7), (Value.slice (some { block := g8, off := o8 }) Q.length c8), (Value.int IntKind.i64 ↑m), u10, (u11), (u12), (u13), (u14), (u15), (Value.slice ad dn.length cd), (Value.int IntKind.i64 ↑dn.length), (Value.pointer (some { block := b, off := 0 })), (Value.pointer (some { block := b, off := 0 })), (Value.pointer (some { block := b, off := 0 })), (Value.slice (some { block := bl, off := ol }) L.length ac), (Value.int IntKind.i64 ↑L.length), (Value.bool false), undef, (Value.pointer (some { block := b, off := 0 })), (Value.pointer (some { block := b, off := 0 })), (Value.pointer (some { block := b, off := 0 })), (Value.slice (some { block := bl, off := ol }) L.length ac), (Value.slice ad dn.length cd), (Value.slice (some { block := g8, off := o8 }) Q.length c8), (Value.int IntKind.i64 ↑m), (Value.slice (some { block := g8, off := o8 }) Q.length c8), (Value.int IntKind.i64 ↑Q.length), (Value.bool true), (u35), (u36), (Value.pointer (some { block := b, off := 0 })), (Value.pointer (some { block := b, off := 0 })), (Value.pointer (some { block := b, off := 3 })), (Value.int IntKind.i64 lm), (Value.bool false), (Value.pointer (some { block := b, off := 0 })), (Value.pointer (some { block := b, off := 0 })), (Value.pointer (some { block := b, off := 0 })), (Value.pointer (some { block := b, off := 3 })), (Value.int IntKind.i64 lm), (Value.int IntKind.i64 (lm - 1)), (Value.pointer (some { block := b, off := 0 })), (Value.pointer (some { block := b, off := 3 })), u50, u51, u52, u53, u54, u55, u56, u57, u58, u59, (u60), (u61), (u62), (u63), (u64), (u65), (u66), (u67), (u68), (u69), (u70), (u71), (u72), (u73), (u74), (u75), (u76), (u77), (u78), (u79), (u80), (u81), (u82), (u83), (u84), (u85), (u86), (u87), (u88), (u89), (u90), (u91), (u92), (u93), (u94), (u95), (u96), (u97), (u98), (u99), (u100), (u101), (u102), (u103), (u104), (u105), (u106), (u107), (u108), (u109), (u110), (u111), (u112), (u113), (u114), (u115), (u116), (u117), (u118), (u119)], []⟩ ∧ Below X.heap.size X w9 ∧ Hid (ls.getD 0 false = true → u50 = .pointer (some ⟨b, 0, none⟩)) ∧ Hid (ls.getD 1 false = true → u51 = .pointer (some ⟨b, 0, none⟩)) ∧ Hid (ls.getD 2 false = true → u52 = .pointer (some ⟨b, 0, none⟩)) ∧ Hid (ls.getD 3 false = true → u53 = .slice (some ⟨bl, ol, none⟩) L.length ac) ∧ Hid (ls.getD 4 false = true → u54 = .slice (some ⟨g8, o8, none⟩) Q.length c8) ∧ Hid (ls.getD 5 false = true → u55 = .int .i64 (m : Nat)) ∧ Hid (ls.getD 6 false = true → u56 = .pointer (some ⟨g8, o8 + m, none⟩)) ∧ Hid (ls.getD 7 false = true → u57 = .int .i64 (i : Nat)) ∧ Hid (ls.getD 8 false = true → u58 = .pointer (some ⟨bl, ol + i * 5, none⟩)) ∧ Hid (ls.getD 9 false = true → u59 = .agg #[.string x.1.nm, .int .i64 x.1.wk, .int .i64 (ρ : Nat), .slice ax x.1.af.length nx, .int .i64 x.1.du]) ∧ Hid (ls.getD 10 false = true → u10 = .pointer (some ⟨X.drew.heap.size, 0, none⟩)) ∧ Hid (ls.getD 10 false = false → w9 = X.drew) ∧ Hid (ls.getD 10 false = true → ls.getD 11 false = false → w9 = X.drew.alloc (.cells #[.string ByteArray.empty, .int .i64 0, .int .i64 0, .slice none 0 0, .int .i64 0] 44)) ∧ Hid (ls.getD 11 false = true → w9 = X.drew.alloc (.cells #[.string x.1.nm, .int .i64 x.1.wk, .int .i64 (ρ : Nat), .slice ax x.1.af.length nx, .int .i64 x.1.du] 44)) := ⟨_, rfl⟩
     have HIH := Lib.hid HIe
     clear HIe
     refine wpAny_invC I ?_ ?_ _ _ _ _ ?_ ?_ ?_
     case refine_3 =>
      rw [HIH.out]
      exact ⟨u50, u51, u52, u53, u54, u55, u56, u57, u58, u59, u10, rfl, rfl, (Below.refl _ X).drew, (fun h => by cases h), (fun h => by cases h), (fun h => by cases h), (fun h => by cases h), (fun h => by cases h), (fun h => by cases h), (fun h => by cases h), (fun h => by cases h), (fun h => by cases h), (fun h => by cases h), (fun h => by cases h), (fun _ => rfl), (fun h => by cases h), (fun h => by cases h)⟩
     case refine_4 => intro j; exact getD_rep _ _
     case refine_5 => decide
     case refine_2 =>
      intro ls a9 w9 hI hr
      rw [HIH.out] at hI
      obtain ⟨u50, u51, u52, u53, u54, u55, u56, u57, u58, u59, u10, hsz, rfl, hB, f0, f1, f2, f3, f4, f5, f6, f7, f8, f9, f10, wa, wb, wc⟩ := hI
      have hall := all_listed hsz (by kernel_rfl) hr
      have hw := wc.out (hall 11 (by decide))
      have e10 := f10.out (hall 10 (by decide))
      subst hw
      subst e10
      clear wa wb wc f0 f1 f2 f3 f4 f5 f6 f7 f8 f9 f10 hr hall hsz
      have HT5 : Hid ((X.drew.alloc (.cells #[.string x.1.nm, .int .i64 x.1.wk, .int .i64 (ρ : Nat), .slice ax x.1.af.length nx, .int .i64 x.1.du] 44)).cell? ⟨X.drew.heap.size, 0, none⟩ = some (.string x.1.nm) ∧ (X.drew.alloc (.cells #[.string x.1.nm, .int .i64 x.1.wk, .int .i64 (ρ : Nat), .slice ax x.1.af.length nx, .int .i64 x.1.du] 44)).cell? ⟨X.drew.heap.size, 1, none⟩ = some (.int .i64 x.1.wk) ∧ (X.drew.alloc (.cells #[.string x.1.nm, .int .i64 x.1.wk, .int .i64 (ρ : Nat), .slice ax x.1.af.length nx, .int .i64 x.1.du] 44)).cell? ⟨X.drew.heap.size, 2, none⟩ = some (.int .i64 (ρ : Nat)) ∧ (X.drew.alloc (.cells #[.string x.1.nm, .int .i64 x.1.wk, .int .i64 (ρ : Nat), .slice ax x.1.af.length nx, .int .i64 x.1.du] 44)).cell? ⟨X.drew.heap.size, 3, none⟩ = some (.slice ax x.1.af.length nx) ∧ (X.drew.alloc (.cells #[.string x.1.nm, .int .i64 x.1.wk, .int .i64 (ρ : Nat), .slice ax x.1.af.length nx, .int .i64 x.1.du] 44)).cell? ⟨X.drew.heap.size, 4, none⟩ = some (.int .i64 x.1.du)) := by
       refine ⟨?_, ?_, ?_, ?_, ?_⟩ <;> simp [go_sem]
      have HBY := Lib.hid hB
      clear hB
      have htb : X.drew.heap.size = X.heap.size := rfl
      rw [htb] at HT5 ⊢
      have hXW : W.heap.size ≤ X.heap.size := (HK1.out.trans HKa.out).1.size
      generalize X.drew.alloc (.cells #[.string x.1.nm, .int .i64 x.1.wk, .int .i64 (ρ : Nat), .slice ax x.1.af.length nx, .int .i64 x.1.du] 44) = Y at *
      have HXW := Lib.hid hXW
      clear hXW htb
      have HTY := Lib.hid HT5.out
      have HBWY := Lib.hid (K3.trans (HK1.out.trans HKa.out) (K3.of (b := b) (ba := b) (bd := b) ((HR.out.B.trans (HK1.out.trans HKa.out).1).size) HBY.out))
      have HBKY := Lib.hid (HKa.out.trans (K3.of (b := b) (ba := b) (bd := b) ((HR.out.B.trans (HK1.out.trans HKa.out).1).size) HBY.out))
      have HSY := Lib.hid (HSa.out.below HBY.out)
      have HLY := Lib.hid (HC.out.hL.below (HR.out.B.trans HBWY.out.1))
      have HRY := Lib.hid (HC.out.hR.below (HR.out.B.trans HBWY.out.1))
      have HDY := Lib.hid (HR.out.D.keep HBWY.out)
      have HAY := Lib.hid (HR.out.A.keep HBWY.out)
      have HVY := Lib.hid (keepCell HBY.out HVX.out)
      obtain ⟨aR, cR, evR, _, hcR⟩ := HRY.out
      obtain ⟨hr7, br, orr, rfl, p0, p1, p2, p3, p4, p5, p6⟩ := hcR ρ HRO.out.2.2
      obtain ⟨z, hz⟩ : ∃ z, R.getD ρ sw0 = z := ⟨_, rfl⟩
      rw [hz] at hr7 p0 p1 p2 p3 p4 p5 p6
      obtain ⟨b1, m1, k1⟩ := hr7.1.form
      obtain ⟨b2, m2, k2⟩ := hr7.2.1.form
      obtain ⟨b3, m3, k3⟩ := hr7.2.2.form
      rw [k1] at p1
      rw [k2] at p3
      rw [k3] at p6
      rw [k1, k2, k3] at hr7
      have HC7 := Lib.hid (And.intro p0 (And.intro p1 (And.intro p2 (And.intro p3 (And.intro p4 (And.intro p5 p6))))))
      have HEVR := Lib.hid evR
      have HSX : Hid (setOf (tks L) (sts R) i = z.1) := by unfold Hid setOf; rw [HRO.out.1, sts_at, hz]
      have hvz : VB z.1 = true := by have := HC.out.vb ρ HRO.out.2.2; rwa [hz] at this
      have hwk : 1 ≤ x.1.wk ∧ x.1.wk ≤ 4398046511104 := by
       have h1 := HC.out.hv.wk i (by rw [tks_length]; exact hil)
       have h2 := HC.out.wk i hil
       rw [tks_at, HXE.out] at h1
       rw [HXE.out] at h2
       omega
      obtain ⟨fx, hfx⟩ : ∃ fx, fromM start e a (tkAt (tks L) i) = fx := ⟨_, rfl⟩
      have hfr : fromR (tks L) a i dn start = fx := by rw [← hfx]; exact from_eq HC.out.hv HR.out.E (by rw [tks_length]; exact hil) HIF.out
      have hfl : fx ≤ 4398046511104 := by rw [← hfx]; exact ends_line HC.out.hv HR.out.E HC.out.hs.2 HR.out.ab (by rw [tks_length]; exact hil) HIF.out
      have hfg : start ≤ fx := by rw [← hfx]; exact from_ge.1
      have hal : a.length = L.length := by rw [← tks_length L]; exact HR.out.E.al
      have HFX := Lib.hid hfx
      obtain ⟨o, ho⟩ : ∃ o, earlM z.1 x.1.wk fx = o := ⟨_, rfl⟩
      obtain ⟨ox, hox⟩ : ∃ t, (o.getD (0, 0)).1 = t := ⟨_, rfl⟩
      obtain ⟨oy, hoy⟩ : ∃ t, (o.getD (0, 0)).2 = t := ⟨_, rfl⟩
      obtain ⟨oz, hoz⟩ : ∃ t, o.isSome = t := ⟨_, rfl⟩
      have HOE := Lib.hid ho
      have HOX := Lib.hid (And.intro hox (And.intro hoy hoz))
      have HFR : Hid (∀ W', Below Y.heap.size Y W' → Calls Tryz.prog 79 #[.pointer (some ⟨b, 0, none⟩), .slice ad dn.length cd, .slice aa a.length ca, .int .i64 (i : Nat)] W' fun e' w' => e' = .returned (.int .i64 fx) ∧ Below W'.heap.size W' w') := fun W' hW' => by
       have h1 := from48_any vl vR _ _ b start (lm - 1) L dn a i W' (HSY.out.below hW') (HLY.out.below hW') (HDY.out.rd.below hW') (keepRd hW' HAY.out.rd) hil (fun k hk => by have := HR.out.E.lt k hk; rwa [tks_length] at this) hal HC.out.len.1 (fun k hk => (HC.out.hv.rs k (by rw [tks_length]; exact hk)).1)
       rw [hfr] at h1
       exact h1
      have HEA : Hid (∀ W', Below Y.heap.size Y W' → Calls Tryz.prog 78 #[.agg #[.int .i64 z.1.lf.1, .slice b1 z.1.lf.2.length m1, .int .i64 z.1.rt.1, .slice b2 z.1.rt.2.length m2, .int .i64 z.1.fr, .int .i64 z.1.to, .slice b3 z.1.l.length m3], .int .i64 x.1.wk, .int .i64 fx] W' fun e' w' => e' = .returned (.tuple #[.agg #[.int .i64 ox, .int .i64 oy], .bool oz]) ∧ Below W'.heap.size W' w') := fun W' hW' => by
       have h1 := earl48_any z.1 _ _ _ x.1.wk fx W' (keepSt hW' hr7) hvz (by have := HC.out.hs; omega) (by omega) hwk.1 hwk.2
       rw [ho] at h1
       unfold EaPost at h1
       rw [hox, hoy, hoz] at h1
       exact h1
      clear hr7 p0 p1 p2 p3 p4 p5 p6 hz k1 k2 k3 evR hcR hvz hwk hfx hfr hfl hfg hal ho hox hoy hoz
      go_upto_region 11 with fail
      refine wp_region_any (by kernel_rfl) ?_
      change wpAny _ _ _ _ _ _ _ Y.drew
      obtain ⟨I, HIe⟩ : ∃ I : Array Bool → Act → World → Prop, I = fun (ls : Array Bool) (a9 : Act) (w9 : World) => ∃ (β : Nat) (u60 u61 u62 u63 u64 u65 u66 u67 u68 u69 u70 u71 u72 u73 u74 u75 u76 u77 u78 u79 u80 u81 u11 u12 : Value), ls.size = 25 ∧ a9 = ⟨#[(Value.pointer (some { block := b, off := 0 })), (Value.slice ad dn.length cd), (Value.slice aa a.length ca), undef, undef, undef, (u6), (u7), (Value.slice (some { block := g8, off := o8 }) Q.length c8), (Value.int IntKind.i64 ↑m), (Value.pointer (some { block := X.heap.size, off := 0 })), u11, u12, (u13), (u14), (u15), (Value.slice ad dn.length cd), (Value.int IntKind.i64 ↑dn.length), (Value.pointer (some { block := b, off := 0 })), (Value.pointer (some { block := b, off := 0 })), (Value.pointer (some { block := b, off := 0 })), (Value.slice (some { block := bl, off := ol }) L.length ac), (Value.int IntKind.i64 ↑L.length), (Value.bool false), undef, (Value.pointer (some { block := b, off := 0 })), (Value.pointer (some { block := b, off := 0 })), (Value.pointer (some { block := b, off := 0 })), (Value.slice (some { block := bl, off := ol }) L.length ac), (Value.slice ad dn.length cd), (Value.slice (some { block := g8, off := o8 }) Q.length c8), (Value.int IntKind.i64 ↑m), (Value.slice (some { block := g8, off := o8 }) Q.length c8), (Value.int IntKind.i64 ↑Q.length), (Value.bool true), (u35), (u36), (Value.pointer (some { block := b, off := 0 })), (Value.pointer (some { block := b, off := 0 })), (Value.pointer (some { block := b, off := 3 })), (Value.int IntKind.i64 lm), (Value.bool false), (Value.pointer (some { block := b, off := 0 })), (Value.pointer (some { block := b, off := 0 })), (Value.pointer (some { block := b, off := 0 })), (Value.pointer (some { block := b, off := 3 })), (Value.int IntKind.i64 lm), (Value.int IntKind.i64 (lm - 1)), (Value.pointer (some { block := b, off := 0 })), (Value.pointer (some { block := b, off := 3 })), (u50), (u51), (u52), (u53), (u54), (u55), (u56), (u57), (u58), (u59), u60, u61, u62, u63, u64, u65, u66, u67, u68, u69, u70, u71, u72, u73, u74, u75, u76, u77, u78, u79, u80, u81, (u82), (u83), (u84), (u85), (u86), (u87), (u88), (u89), (u90), (u91), (u92), (u93), (u94), (u95), (u96), (u97), (u98), (u99), (u100), (u101), (u102), (u103), (u104), (u105), (u106), (u107), (u108), (u109), (u110), (u111), (u112), (u113), (u114), (u115), (u116), (u117), (u118), (u119)], []⟩ ∧ Below Y.heap.size Y w9 ∧ Hid (ls.getD 0 false = true → u61 = .pointer (some ⟨b, 0, none⟩)) ∧ Hid (ls.getD 1 false = true → u62 = .pointer (some ⟨b, 0, none⟩)) ∧ Hid (ls.getD 2 false = true → u63 = .pointer (some ⟨b, 1, none⟩)) ∧ Hid (ls.getD 3 false = true → u64 = .slice (some ⟨br, orr, none⟩) R.length cR) ∧ Hid (ls.getD 4 false = true → u65 = .pointer (some ⟨X.heap.size, 2, none⟩)) ∧ Hid (ls.getD 5 false = true → u66 = .int .i64 (ρ : Nat)) ∧ Hid (ls.getD 6 false = true → u67 = .pointer (some ⟨br, orr + ρ * 7, none⟩)) ∧ Hid (ls.getD 7 false = true → u68 = .agg #[.int .i64 z.1.lf.1, .slice b1 z.1.lf.2.length m1, .int .i64 z.1.rt.1, .slice b2 z.1.rt.2.length m2, .int .i64 z.1.fr, .int .i64 z.1.to, .slice b3 z.1.l.length m3]) ∧ Hid (ls.getD 8 false = true → u69 = .pointer (some ⟨X.heap.size, 1, none⟩)) ∧ Hid (ls.getD 9 false = true → u70 = .int .i64 x.1.wk) ∧ Hid (ls.getD 10 false = true → u71 = .pointer (some ⟨b, 0, none⟩)) ∧ Hid (ls.getD 11 false = true → u72 = .slice ad dn.length cd) ∧ Hid (ls.getD 12 false = true → u73 = .slice aa a.length ca) ∧ Hid (ls.getD 13 false = true → u74 = .slice (some ⟨g8, o8, none⟩) Q.length c8) ∧ Hid (ls.getD 14 false = true → u75 = .int .i64 (m : Nat)) ∧ Hid (ls.getD 15 false = true → u76 = .pointer (some ⟨g8, o8 + m, none⟩)) ∧ Hid (ls.getD 16 false = true → u77 = .int .i64 (i : Nat)) ∧ Hid (ls.getD 17 false = true → u78 = .int .i64 fx) ∧ Hid (ls.getD 18 false = true → u79 = .tuple #[.agg #[.int .i64 ox, .int .i64 oy], .bool oz]) ∧ Hid (ls.getD 19 false = true → u60 = .tuple #[.agg #[.int .i64 ox, .int .i64 oy], .bool oz]) ∧ Hid (ls.getD 20 false = true → u80 = .agg #[.int .i64 ox, .int .i64 oy]) ∧ Hid (ls.getD 21 false = true → u81 = .bool oz) ∧ Hid (ls.getD 22 false = true → u11 = .pointer (some ⟨β, 0, none⟩)) ∧ Hid (ls.getD 24 false = true → u12 = .bool oz) ∧ Hid (ls.getD 22 false = true → Y.heap.size ≤ β) ∧ Hid (ls.getD 22 false = true → ls.getD 23 false = false → BoxS w9 β 0 0) ∧ Hid (ls.getD 23 false = true → BoxS w9 β ox oy) := ⟨_, rfl⟩
      have HIH := Lib.hid HIe
      clear HIe
      refine wpAny_invC I ?_ ?_ _ _ _ _ ?_ ?_ ?_
      case refine_3 =>
       rw [HIH.out]
       exact ⟨0, u60, u61, u62, u63, u64, u65, u66, u67, u68, u69, u70, u71, u72, u73, u74, u75, u76, u77, u78, u79, u80, u81, u11, u12, rfl, rfl, (Below.refl _ Y).drew, (fun h => by cases h), (fun h => by cases h), (fun h => by cases h), (fun h => by cases h), (fun h => by cases h), (fun h => by cases h), (fun h => by cases h), (fun h => by cases h), (fun h => by cases h), (fun h => by cases h), (fun h => by cases h), (fun h => by cases h), (fun h => by cases h), (fun h => by cases h), (fun h => by cases h), (fun h => by cases h), (fun h => by cases h), (fun h => by cases h), (fun h => by cases h), (fun h => by cases h), (fun h => by cases h), (fun h => by cases h), (fun h => by cases h), (fun h => by cases h), (fun h => by cases h), (fun h => by cases h), (fun h => by cases h)⟩
      case refine_4 => intro j; exact getD_rep _ _
      case refine_5 => decide
      case refine_2 =>
       intro ls a9 w9 hI hr
       rw [HIH.out] at hI
       obtain ⟨β, u60, u61, u62, u63, u64, u65, u66, u67, u68, u69, u70, u71, u72, u73, u74, u75, u76, u77, u78, u79, u80, u81, u11, u12, hsz, rfl, hB, f0, f1, f2, f3, f4, f5, f6, f7, f8, f9, f10, f11, f12, f13, f14, f15, f16, f17, f18, f19, f20, f21, f22, f24, rb, b0, b1⟩ := hI
       have hall := all_listed_rk [0, 1, 2, 3, 4, 5, 6, 7, 8, 9, 10, 11, 12, 13, 14, 15, 16, 17, 18, 19, 20, 21, 22, 23, 24] hsz (by kernel_rfl) hr
       have hbx := b1.out (hall 23 (by decide))
       have hbb := rb.out (hall 22 (by decide))
       have e11 := f22.out (hall 22 (by decide))
       have e12 := f24.out (hall 24 (by decide))
       subst e11
       subst e12
       have HBX := Lib.hid hbx
       have HBZ := Lib.hid hB
       have HBB := Lib.hid hbb
       clear hbx hbb hB rb b0 b1 hall hr hsz f0 f1 f2 f3 f4 f5 f6 f7 f8 f9 f10 f11 f12 f13 f14 f15 f16 f17 f18 f19 f20 f21 f22 f24
       generalize w9 = Z at *
       have HKZ := Lib.hid (HBKY.out.trans (K3.of (b := b) (ba := b) (bd := b) ((HR.out.B.trans HBWY.out.1).size) HBZ.out))
       have HKW := Lib.hid (HBWY.out.trans (K3.of (b := b) (ba := b) (bd := b) ((HR.out.B.trans HBWY.out.1).size) HBZ.out))
       have HSZ := Lib.hid (HSY.out.below HBZ.out)
       have HTZ := Lib.hid (keepCell HBZ.out HTY.out.2.2.2.2)
       have HEM : Hid (earlM (setOf (tks L) (sts R) i) (tkAt (tks L) i).wk (fromM start e a (tkAt (tks L) i)) = o) := by
        unfold Hid
        rw [HSX.out, HFX.out, tks_at, HXE.out]
        exact HOE.out
       have HDU : Hid (dueOf (tks L) i = x.1.du) := by unfold Hid dueOf; rw [tks_at, HXE.out]
       have hbv := HBX.out
       cases o with
       | none =>
        obtain ⟨hox, hoy, hoz⟩ := HOX.out
        have hoz : oz = false := hoz.symm
        subst hoz
        clear hox hoy hbv
        have HTN : Hid (tryM (runM (tks L) (sts R) start n) (tks L) (sts R) start d e a (Q.drop (m + 1)) (lm - 1) = r) := by
         unfold Hid
         rw [← HTC.out]
         refine (try_skip HL0.out ?_).symm
         intro s' hs'
         rw [HEM.out] at hs'
         cases hs'
        go_wp2
        go_roundw
        case rel => exact ⟨m + 1, lm - 1, by go_num, by omega, HSZ.out, HKZ.out, HTN.out, HLa.out⟩
        case measure => simp [intOf]; omega
       | some oxy =>
        obtain ⟨ox', oy'⟩ := oxy
        obtain ⟨hox, hoy, hoz⟩ := HOX.out
        have hox : ox' = ox := hox
        have hoy : oy' = oy := hoy
        have hoz : oz = true := hoz.symm
        subst hox hoy hoz
        obtain ⟨bx0, bx1, bx2, bx3⟩ := hbv
        have t4 := HTZ.out
        by_cases hdue : x.1.du < oy'
        ·have g2 : decide (x.1.du < oy') = true := by simpa using hdue
         have HDE : Hid (x.1.du < oy') := hdue
         clear hdue
         have HTN : Hid (tryM (runM (tks L) (sts R) start n) (tks L) (sts R) start d e a (Q.drop (m + 1)) (lm - 1) = r) := by
          unfold Hid
          rw [← HTC.out]
          refine (try_skip HL0.out ?_).symm
          intro s' hs'
          rw [HEM.out] at hs'
          cases hs'; rw [HDU.out]; exact HDE.out
         go_wp2
         go_roundw
         case rel => exact ⟨m + 1, lm - 1, by go_num, by omega, HSZ.out, HKZ.out, HTN.out, HLa.out⟩
         case measure => simp [intOf]; omega
        ·have g2 : decide (x.1.du < oy') = false := by simpa using hdue
         have HDE : Hid (¬ x.1.du < oy') := hdue
         clear hdue
         have HAZ := Lib.hid (HAY.out.keep (K3.of (B := 0) (b := b) (ba := b) (bd := b) (Nat.zero_le _) HBZ.out))
         have HDZ := Lib.hid (HDY.out.keep (K3.of (B := 0) (b := b) (ba := b) (bd := b) (Nat.zero_le _) HBZ.out))
         have HVZ := Lib.hid (keepCell HBZ.out HVY.out)
         have HAL : Hid (a.length = L.length) := by have := HR.out.E.al; rw [tks_length] at this; exact this
         have hpos : 0 < a.length := by have := HAL.out; omega
         have hla : a.length ≤ 24 := by have := HAL.out; have := HC.out.len; omega
         have HRDZ := Lib.hid HAZ.out.rd
         have H0 : Hid (OwnS (Z.alloc (.cells #[] 46)) Z.heap.size (.slice (some ⟨Z.heap.size, 0, none⟩) 0 0) []) := World.ownsRow_made (base := Z.heap.size) (e := 46) (size := 2) Z #[] 0 (Nat.le_refl _) (Nat.zero_le _) rfl
         have HB0 : Hid (Below Z.heap.size Z (Z.alloc (.cells #[] 46))) := (Below.refl _ Z).alloc (Nat.le_refl _) _
         have HPOS := Lib.hid hpos
         have HLA := Lib.hid hla
         have HNN2 : Hid (aa = none → ca = 0) := fun h => by
          obtain ⟨p', c', e', _, hc'⟩ := HAZ.out
          obtain ⟨g', o', e2, _⟩ := hc' 0 hpos
          simp only [Value.slice.injEq] at e'
          rw [h, e2] at e'
          cases e'.1
         clear hpos hla
         go_upto_region 14 with (first | (at_builtin; refine wpList_app_spans (N := a) rfl (.tmp 91) (.tmp 92) rfl rfl H0.out HB0.out rfl rfl (keepRd HB0.out HRDZ.out) HNN2.out (by simp; have := HLA.out; omega) ?_; intro v1 Z1 o1 b1) | fail)
         rw [List.nil_append] at o1
         obtain ⟨g1, cap1, rfl, hg1, hg2, hrow1⟩ := o1.cellsP HPOS.out
         have HG1 := Lib.hid (And.intro hg1 hg2)
         have HROW := Lib.hid hrow1
         have HB1Z := Lib.hid b1
         have HV1 := Lib.hid (keepCell b1 HVZ.out)
         have hbx1 := HBX.out.below b1
         have HBX1 := Lib.hid hbx1
         have HIA : Hid (i < a.length) := by have := HAL.out; have := HIL.out; unfold Hid; omega
         clear bx0 bx1 bx2 bx3 t4 o1 b1 hg1 hg2 hrow1 hbx1 g2
         refine wp_region_any (by kernel_rfl) ?_
         change wpAny _ _ _ _ _ _ _ Z1.drew
         obtain ⟨I, HIe⟩ : ∃ I : Array Bool → Act → World → Prop, I = fun (ls : Array Bool) (a9 : Act) (w9 : World) => ∃  (u94 u95 u96 u97 u98 u99 u100 : Value), ls.size = 8 ∧ a9 = ⟨#[(Value.pointer (some { block := b, off := 0 })), (Value.slice ad dn.length cd), (Value.slice aa a.length ca), undef, undef, undef, (u6), (u7), (Value.slice (some { block := g8, off := o8 }) Q.length c8), (Value.int IntKind.i64 ↑m), (Value.pointer (some { block := X.heap.size, off := 0 })), (Value.pointer (some { block := β, off := 0 })), (Value.bool true), (Value.slice (some { block := g1, off := 0 }) a.length cap1), (u14), (u15), (Value.slice ad dn.length cd), (Value.int IntKind.i64 ↑dn.length), (Value.pointer (some { block := b, off := 0 })), (Value.pointer (some { block := b, off := 0 })), (Value.pointer (some { block := b, off := 0 })), (Value.slice (some { block := bl, off := ol }) L.length ac), (Value.int IntKind.i64 ↑L.length), (Value.bool false), undef, (Value.pointer (some { block := b, off := 0 })), (Value.pointer (some { block := b, off := 0 })), (Value.pointer (some { block := b, off := 0 })), (Value.slice (some { block := bl, off := ol }) L.length ac), (Value.slice ad dn.length cd), (Value.slice (some { block := g8, off := o8 }) Q.length c8), (Value.int IntKind.i64 ↑m), (Value.slice (some { block := g8, off := o8 }) Q.length c8), (Value.int IntKind.i64 ↑Q.length), (Value.bool true), (u35), (u36), (Value.pointer (some { block := b, off := 0 })), (Value.pointer (some { block := b, off := 0 })), (Value.pointer (some { block := b, off := 3 })), (Value.int IntKind.i64 lm), (Value.bool false), (Value.pointer (some { block := b, off := 0 })), (Value.pointer (some { block := b, off := 0 })), (Value.pointer (some { block := b, off := 0 })), (Value.pointer (some { block := b, off := 3 })), (Value.int IntKind.i64 lm), (Value.int IntKind.i64 (lm - 1)), (Value.pointer (some { block := b, off := 0 })), (Value.pointer (some { block := b, off := 3 })), (u50), (u51), (u52), (u53), (u54), (u55), (u56), (u57), (u58), (u59), (u60), (u61), (u62), (u63), (u64), (u65), (u66), (u67), (u68), (u69), (u70), (u71), (u72), (u73), (u74), (u75), (u76), (u77), (u78), (u79), (u80), (u81), (Value.bool true), (Value.bool false), (Value.bool false), (Value.pointer (some { block := β, off := 1 })), (Value.int IntKind.i64 oy'), (Value.pointer (some { block := X.heap.size, off := 4 })), (Value.int IntKind.i64 x.fst.du), (Value.bool false), (Value.bool false), (Value.slice (some { block := Z.heap.size, off := 0 }) 0 0), (Value.slice aa a.length ca), (Value.slice (some { block := g1, off := 0 }) a.length cap1), u94, u95, u96, u97, u98, u99, u100, (u101), (u102), (u103), (u104), (u105), (u106), (u107), (u108), (u109), (u110), (u111), (u112), (u113), (u114), (u115), (u116), (u117), (u118), (u119)], []⟩ ∧ Hid (ls.getD 0 false = true → u94 = .slice (some ⟨g1, 0, none⟩) a.length cap1) ∧ Hid (ls.getD 1 false = true → u95 = .slice (some ⟨g8, o8, none⟩) Q.length c8) ∧ Hid (ls.getD 2 false = true → u96 = .int .i64 (m : Nat)) ∧ Hid (ls.getD 3 false = true → u97 = .pointer (some ⟨g8, o8 + m, none⟩)) ∧ Hid (ls.getD 4 false = true → u98 = .int .i64 (i : Nat)) ∧ Hid (ls.getD 5 false = true → u99 = .agg #[.int .i64 ox', .int .i64 oy']) ∧ Hid (ls.getD 6 false = true → u100 = .pointer (some ⟨g1, i * 2, none⟩)) ∧ Hid (ls.getD 7 false = false → w9 = Z1.drew) ∧ Hid (ls.getD 7 false = true → w9 = ((Z1.drew.setCell ⟨g1, i * 2, none⟩ (.int .i64 ox')).setCell ⟨g1, i * 2 + 1, none⟩ (.int .i64 oy'))) := ⟨_, rfl⟩
         have HIH := Lib.hid HIe
         clear HIe
         refine wpAny_invC I ?_ ?_ _ _ _ _ ?_ ?_ ?_
         case refine_3 =>
          rw [HIH.out]
          exact ⟨u94, u95, u96, u97, u98, u99, u100, rfl, rfl, (fun h => by cases h), (fun h => by cases h), (fun h => by cases h), (fun h => by cases h), (fun h => by cases h), (fun h => by cases h), (fun h => by cases h), (fun _ => rfl), (fun h => by cases h)⟩
         case refine_4 => intro j; exact getD_rep _ _
         case refine_5 => decide
         case refine_2 =>
          intro ls a9 w9 hI hr
          rw [HIH.out] at hI
          obtain ⟨u94, u95, u96, u97, u98, u99, u100, hsz, rfl, f0, f1, f2, f3, f4, f5, f6, wa, wb⟩ := hI
          have hall := all_listed hsz (by kernel_rfl) hr
          have hw := wb.out (hall 7 (by decide))
          subst hw
          clear wa wb f0 f1 f2 f3 f4 f5 f6 hall hr hsz
          have HROW2 := Lib.hid (RowP.setAt (W := Z1.drew) HROW.out HIA.out (ox', oy'))
          have hb2 : Below Z.heap.size Z ((Z1.drew.setCell ⟨g1, i * 2, none⟩ (.int .i64 ox')).setCell ⟨g1, i * 2 + 1, none⟩ (.int .i64 oy')) := (HB1Z.out.drew.setCell (p := ⟨g1, i * 2, none⟩) HG1.out.1 _).setCell (p := ⟨g1, i * 2 + 1, none⟩) HG1.out.1 _
          generalize (Z1.drew.setCell ⟨g1, i * 2, none⟩ (.int .i64 ox')).setCell ⟨g1, i * 2 + 1, none⟩ (.int .i64 oy') = V at *
          have HZV := Lib.hid hb2
          have hbltZ : b < Z.heap.size := by
           have h1 := HLT.out
           have h2 := HKW.out.1.size
           have h3 := HKW.out.1.size
           have h4 : W.heap.size ≤ Z.heap.size := by
            have h5 := HXW.out
            have h6 := HBY.out.size
            have h7 := HBZ.out.size
            omega
           omega
          have hg1b : g1 ≠ b := by have := HG1.out; omega
          have HKV := Lib.hid (HKZ.out.trans (K3.of (b := b) (ba := b) (bd := b) ((HR.out.B.trans HKW.out.1).size) hb2))
          have HKVW := Lib.hid (HKW.out.trans (K3.of (b := b) (ba := b) (bd := b) ((HR.out.B.trans HKW.out.1).size) hb2))
          have HSV := Lib.hid (HSZ.out.below hb2)
          have HDV := Lib.hid (HDZ.out.keep (K3.of (B := 0) (b := b) (ba := b) (bd := b) (Nat.zero_le _) hb2))
          have HVV := Lib.hid (keepCell hb2 HVZ.out)
          have HAV : Hid (RdP1 b V (.slice (some ⟨g1, 0, none⟩) a.length cap1) (a.set i (ox', oy'))) := by
           have := HROW2.out.rd1 (c := cap1) (b := b) (by rw [List.length_set]; exact HLA.out) hg1b
           rwa [List.length_set] at this
          have HBV : Hid (b < V.heap.size) := Nat.lt_of_lt_of_le hbltZ hb2.size
          clear hb2 hbltZ hg1b HROW HV1 HBX1 HB1Z
          go_upto_region 15 with fail
          obtain ⟨r6, hr6⟩ : ∃ r6, runM (tks L) (sts R) start n (d.set i true) (e.set ρ oy') (a.set i (ox', oy')) (lm - 1) = r6 := ⟨_, rfl⟩
          have hdi : dAt d i = false := (free_iff.1 HIF.out).1
          have hil3 : i < d.length := by have := HR.out.E.dl; rw [tks_length] at this; omega
          have hoyM : oy' ≤ 4398046511104 := (earl_spec (HC.out.hv.res i (by rw [tks_length]; exact hil)) (HC.out.hv.wk i (by rw [tks_length]; exact hil)) HEM.out).2.2.1
          have HTG : Hid (afterR (fun left' => tryM (runM (tks L) (sts R) start n) (tks L) (sts R) start d e a (Q.drop (m + 1)) left') r6 = r) := by
           unfold Hid
           have := try_go (rec := runM (tks L) (sts R) start n) (l := tks L) (res := sts R) (start := start) (d := d) (e := e) (a := a) (i := i) (q := Q.drop (m + 1)) HL0.out HEM.out (by rw [HDU.out]; have := HDE.out; show ¬ x.1.du < oy'; omega)
           rw [HTC.out, HRO.out.1] at this
           simp only at this
           rw [this, hr6]
           cases r6 <;> rfl
          have hES := HR.out.E.step HC.out.hv (by rw [tks_length]; exact hil) HIF.out HEM.out
          rw [HRO.out.1] at hES
          have HCR : Hid (∀ W' vd', Below V.heap.size V W' → OwnI W' V.heap.size vd' (natI (dn ++ [i])) → Calls Tryz.prog 48 #[.pointer (some ⟨b, 0, none⟩), vd', .slice (some ⟨g1, 0, none⟩) a.length cap1] W' (StPost w0 b vl vR start r6 W')) := fun W' vd' hW' ho' => by
           rw [← hr6]
           have hl : (natI (dn ++ [i])).length ≤ 1000000 := by rw [natI_length]; have := HNN.out; have := HC.out.len; simp; omega
           refine HIND.out (dn ++ [i]) (d.set i true) (e.set ρ oy') (a.set i (ox', oy')) (lm - 1) vd' _ W' ⟨HSV.out.below hW', (HR.out.B.trans HKVW.out.1).trans (hW'.mono (HR.out.B.trans HKVW.out.1).size), ho'.rd3 HBV.out HBV.out HBV.out hl, HAV.out.keep (K3.of (B := 0) (b := b) (ba := b) (bd := b) (Nat.zero_le _) hW'), hES, fun k hk => ?_, HLa.out, fun h => by simp at h⟩ (count_left hil3 hdi HD.out) (by have := HNN.out; simp; omega)
           unfold spAt
           rw [getD_setL a i k _ _ HIA.out]
           split
           ·exact hoyM
           ·rename_i hne
            unfold dAt at hk
            rw [getD_setL d i k _ _ hil3, if_neg hne] at hk
            exact HR.out.ab k hk
          have HDL : Hid (dn.length ≤ 24) := by have := HNN.out; have := HC.out.len; unfold Hid; omega
          have HPD : Hid ((ad = none ∧ cd = 0 ∧ natI dn = []) ∨ ∃ g k, ad = some ⟨g, k, none⟩ ∧ ∀ j, j < (natI dn).length → V.cell? ⟨g, k + j, none⟩ = some (.int .i64 ((natI dn).getD j 0))) := by
           rcases Nat.eq_zero_or_pos dn.length with h0 | h0
           ·have hd0 : dn = [] := List.eq_nil_of_length_eq_zero h0
            have := HR.out.d0 hd0
            subst hd0
            cases this
            exact Or.inl ⟨rfl, rfl, rfl⟩
           ·obtain ⟨p', c', e', _, hc'⟩ := HDV.out
            simp only [Value.slice.injEq] at e'
            obtain ⟨rfl, -, -⟩ := e'
            obtain ⟨g', o', e2, _⟩ := hc' 0 (by rw [natI_length]; exact h0)
            subst e2
            refine Or.inr ⟨g', o', rfl, fun j hj => ?_⟩
            obtain ⟨g2, o2, e3, _, hh⟩ := hc' j hj
            cases e3
            exact hh
          have HWV : Hid (w0.heap.size ≤ V.heap.size) := (HR.out.B.trans HKVW.out.1).size
          clear hr6 hdi hil3 hoyM hES
          refine wp_region_any (by kernel_rfl) ?_
          change wpAny _ _ _ _ _ _ _ V.drew
          obtain ⟨I, HIe⟩ : ∃ I : Array Bool → Act → World → Prop, I = fun (ls : Array Bool) (a9 : Act) (w9 : World) => ∃ (e0 : Nat) (e1 : Nat) (t5 : Value) (t11 : Value) (v14 : Value) (c14 : Int) (u101 u102 u103 u104 u105 u106 u107 u108 u109 u110 u111 u112 u113 u114 u115 u14 u15 : Value), ls.size = 17 ∧ a9 = ⟨#[(Value.pointer (some { block := b, off := 0 })), (Value.slice ad dn.length cd), (Value.slice aa a.length ca), undef, undef, undef, (u6), (u7), (Value.slice (some { block := g8, off := o8 }) Q.length c8), (Value.int IntKind.i64 ↑m), (Value.pointer (some { block := X.heap.size, off := 0 })), (Value.pointer (some { block := β, off := 0 })), (Value.bool true), (Value.slice (some { block := g1, off := 0 }) a.length cap1), u14, u15, (Value.slice ad dn.length cd), (Value.int IntKind.i64 ↑dn.length), (Value.pointer (some { block := b, off := 0 })), (Value.pointer (some { block := b, off := 0 })), (Value.pointer (some { block := b, off := 0 })), (Value.slice (some { block := bl, off := ol }) L.length ac), (Value.int IntKind.i64 ↑L.length), (Value.bool false), undef, (Value.pointer (some { block := b, off := 0 })), (Value.pointer (some { block := b, off := 0 })), (Value.pointer (some { block := b, off := 0 })), (Value.slice (some { block := bl, off := ol }) L.length ac), (Value.slice ad dn.length cd), (Value.slice (some { block := g8, off := o8 }) Q.length c8), (Value.int IntKind.i64 ↑m), (Value.slice (some { block := g8, off := o8 }) Q.length c8), (Value.int IntKind.i64 ↑Q.length), (Value.bool true), (u35), (u36), (Value.pointer (some { block := b, off := 0 })), (Value.pointer (some { block := b, off := 0 })), (Value.pointer (some { block := b, off := 3 })), (Value.int IntKind.i64 lm), (Value.bool false), (Value.pointer (some { block := b, off := 0 })), (Value.pointer (some { block := b, off := 0 })), (Value.pointer (some { block := b, off := 0 })), (Value.pointer (some { block := b, off := 3 })), (Value.int IntKind.i64 lm), (Value.int IntKind.i64 (lm - 1)), (Value.pointer (some { block := b, off := 0 })), (Value.pointer (some { block := b, off := 3 })), (u50), (u51), (u52), (u53), (u54), (u55), (u56), (u57), (u58), (u59), (u60), (u61), (u62), (u63), (u64), (u65), (u66), (u67), (u68), (u69), (u70), (u71), (u72), (u73), (u74), (u75), (u76), (u77), (u78), (u79), (u80), (u81), (Value.bool true), (Value.bool false), (Value.bool false), (Value.pointer (some { block := β, off := 1 })), (Value.int IntKind.i64 oy'), (Value.pointer (some { block := X.heap.size, off := 4 })), (Value.int IntKind.i64 x.fst.du), (Value.bool false), (Value.bool false), (Value.slice (some { block := Z.heap.size, off := 0 }) 0 0), (Value.slice aa a.length ca), (Value.slice (some { block := g1, off := 0 }) a.length cap1), (u94), (u95), (u96), (u97), (u98), (u99), (u100), u101, u102, u103, u104, u105, u106, u107, u108, u109, u110, u111, u112, u113, u114, u115, (u116), (u117), (u118), (u119)], []⟩ ∧ Hid (ls.getD 0 false = true → u102 = .pointer (some ⟨b, 0, none⟩)) ∧ Hid (ls.getD 1 false = true → u103 = .slice (some ⟨e0, 0, none⟩) 0 0) ∧ Hid (ls.getD 2 false = true → u104 = .slice ad dn.length cd) ∧ Hid (ls.getD 3 false = true → u105 = t5) ∧ Hid (ls.getD 4 false = true → u106 = .slice (some ⟨g8, o8, none⟩) Q.length c8) ∧ Hid (ls.getD 5 false = true → u107 = .int .i64 (m : Nat)) ∧ Hid (ls.getD 6 false = true → u108 = .pointer (some ⟨g8, o8 + m, none⟩)) ∧ Hid (ls.getD 7 false = true → u109 = .int .i64 (i : Nat)) ∧ Hid (ls.getD 8 false = true → u110 = .slice (some ⟨e1, 0, none⟩) 1 1) ∧ Hid (ls.getD 9 false = true → u111 = t11) ∧ Hid (ls.getD 10 false = true → u112 = .slice (some ⟨g1, 0, none⟩) a.length cap1) ∧ Hid (ls.getD 11 false = true → u113 = .tuple #[v14, .int .i64 c14]) ∧ Hid (ls.getD 12 false = true → u101 = .tuple #[v14, .int .i64 c14]) ∧ Hid (ls.getD 13 false = true → u114 = v14) ∧ Hid (ls.getD 14 false = true → u115 = .int .i64 c14) ∧ Hid (ls.getD 15 false = true → u14 = v14) ∧ Hid (ls.getD 16 false = true → u15 = .int .i64 c14) ∧ Hid (ls.getD 1 false = true → ls.getD 3 false = false → OwnI w9 V.heap.size (.slice (some ⟨e0, 0, none⟩) 0 0) []) ∧ Hid (ls.getD 3 false = true → ls.getD 9 false = false → OwnI w9 V.heap.size t5 (natI dn)) ∧ Hid (ls.getD 9 false = true → ls.getD 11 false = false → OwnI w9 V.heap.size t11 (natI (dn ++ [i]))) ∧ Hid (ls.getD 8 false = true → ls.getD 9 false = false → w9.cell? ⟨e1, 0, none⟩ = some (.int .i64 (i : Nat))) ∧ Hid (ls.getD 1 false = true → e0 < w9.heap.size) ∧ Hid (ls.getD 8 false = true → e1 < w9.heap.size) ∧ Hid (ls.getD 1 false = true → ls.getD 8 false = true → e0 ≠ e1) ∧ Hid (ls.getD 11 false = false → Below V.heap.size V w9) ∧ Hid (ls.getD 11 false = true → (K3 w0.heap.size b b b V w9 ∧ StR b vl vR start r6 v14 c14 w9)) := ⟨_, rfl⟩
          have HIH := Lib.hid HIe
          clear HIe
          refine wpAny_invC I ?_ ?_ _ _ _ _ ?_ ?_ ?_
          case refine_3 =>
           rw [HIH.out]
           exact ⟨0, 0, undef, undef, undef, 0, u101, u102, u103, u104, u105, u106, u107, u108, u109, u110, u111, u112, u113, u114, u115, u14, u15, rfl, rfl, (fun h => by cases h), (fun h => by cases h), (fun h => by cases h), (fun h => by cases h), (fun h => by cases h), (fun h => by cases h), (fun h => by cases h), (fun h => by cases h), (fun h => by cases h), (fun h => by cases h), (fun h => by cases h), (fun h => by cases h), (fun h => by cases h), (fun h => by cases h), (fun h => by cases h), (fun h => by cases h), (fun h => by cases h), (fun h => by cases h), (fun h => by cases h), (fun h => by cases h), (fun h => by cases h), (fun h => by cases h), (fun h => by cases h), (fun h => by cases h), (fun _ => (Below.refl _ V).drew), (fun h => by cases h)⟩
          case refine_4 => intro j; exact getD_rep _ _
          case refine_5 => decide
          case refine_2 =>
           intro ls a9 w9 hI hr
           rw [HIH.out] at hI
           obtain ⟨e0, e1, t5, t11, v14, c14, u101, u102, u103, u104, u105, u106, u107, u108, u109, u110, u111, u112, u113, u114, u115, u14, u15, hsz, rfl, f0, f1, f2, f3, f4, f5, f6, f7, f8, f9, f10, f11, f12, f13, f14, f15, f16, q1, q3, q9, q8, ql, qe, qd, hb, hk⟩ := hI
           have hall := all_listed_rk [0, 1, 2, 3, 4, 5, 6, 7, 8, 9, 10, 11, 12, 13, 14, 15, 16] hsz (by kernel_rfl) hr
           obtain ⟨hkV, hrV⟩ := hk.out (hall 11 (by decide))
           have e14 := f15.out (hall 15 (by decide))
           have e15 := f16.out (hall 16 (by decide))
           subst e14
           subst e15
           have HKVV := Lib.hid hkV
           have HRV := Lib.hid hrV
           clear hkV hrV hk hb q1 q3 q9 q8 ql qe qd hall hr hsz f0 f1 f2 f3 f4 f5 f6 f7 f8 f9 f10 f11 f12 f13 f14
           generalize w9 = X9 at *
           have HKF := Lib.hid (HKV.out.trans HKVV.out)
           have HKG := Lib.hid ((HK1.out.trans HKV.out).trans HKVV.out)
           cases r6 with
           | ok a' =>
            obtain ⟨rfl, hrd⟩ := HRV.out
            have hro : Rs.ok a' = r := HTG.out
            subst hro
            have HRD := Lib.hid hrd
            clear hrd
            go_wp2
            go_ret2
            exact ⟨_, _, rfl, HKG.out, rfl, HRD.out⟩
           | out =>
            obtain ⟨rfl, rfl⟩ := HRV.out
            have hro : Rs.out = r := HTG.out
            subst hro
            go_wp2
            go_ret2
            exact ⟨_, _, rfl, HKG.out, rfl, rfl⟩
           | no left' =>
            obtain ⟨rfl, rfl, hlb, hse⟩ := HRV.out
            have HLB := Lib.hid hlb
            have HSE := Lib.hid hse
            have HTN : Hid (tryM (runM (tks L) (sts R) start n) (tks L) (sts R) start d e a (Q.drop (m + 1)) left' = r) := HTG.out
            clear hlb hse
            go_wp2
            go_roundw
            case rel => exact ⟨m + 1, left', by go_num, by omega, HSE.out, HKF.out, HTN.out, HLB.out⟩
            case measure => simp [intOf]; omega
          case refine_1 =>
           intro ls a9 w9 i' hI hcl hi'
           rw [HIH.out] at hI
           obtain ⟨e0, e1, t5, t11, v14, c14, u101, u102, u103, u104, u105, u106, u107, u108, u109, u110, u111, u112, u113, u114, u115, u14, u15, hsz, rfl, f0, f1, f2, f3, f4, f5, f6, f7, f8, f9, f10, f11, f12, f13, f14, f15, f16, q1, q3, q9, q8, ql, qe, qd, hb, hk⟩ := hI
           obtain ⟨hj, op, hop, hall⟩ := mem_ready.1 hi'
           have hlt' := (Array.getElem?_eq_some_iff.1 hop).1
           have hlt' : i' < 17 := hlt'
           have hsz' : (ls.setIfInBounds i' true).size = 17 := by rw [Array.size_setIfInBounds]; exact hsz
           rcases (show i' = 0 ∨ i' = 1 ∨ i' = 2 ∨ i' = 3 ∨ i' = 4 ∨ i' = 5 ∨ i' = 6 ∨ i' = 7 ∨ i' = 8 ∨ i' = 9 ∨ i' = 10 ∨ i' = 11 ∨ i' = 12 ∨ i' = 13 ∨ i' = 14 ∨ i' = 15 ∨ i' = 16 by omega) with rfl | rfl | rfl | rfl | rfl | rfl | rfl | rfl | rfl | rfl | rfl | rfl | rfl | rfl | rfl | rfl | rfl
           ·simp at hop
            subst hop
            refine wpOp_of_list (i := 0) rfl ?_
            go_wp2
            show I _ _ _
            rw [HIH.out]
            exact ⟨e0, e1, t5, t11, v14, c14, _, _, _, _, _, _, _, _, _, _, _, _, _, _, _, _, _, hsz', rfl, (fun _ => rfl), (gx f1), (gx f2), (gx f3), (gx f4), (gx f5), (gx f6), (gx f7), (gx f8), (gx f9), (gx f10), (gx f11), (gx f12), (gx f13), (gx f14), (gx f15), (gx f16), (gx2 q1), (gx2 q3), (gx2 q9), (gx2 q8), (gx ql), (gx qe), (gx2 qd), (fun h => hb.out (gd h)), (gx hk)⟩
           ·simp at hop
            subst hop
            refine wpOp_of_list (i := 1) rfl ?_
            have y1 := not_listed hj
            have y3 := hcl.off (i := 1) (j := 3) rfl y1 ⟨⟨1, .data⟩, by simp, rfl, rfl⟩
            have y9 := hcl.off (i := 3) (j := 9) rfl y3 ⟨⟨3, .data⟩, by simp, rfl, rfl⟩
            have y11 := hcl.off (i := 9) (j := 11) rfl y9 ⟨⟨9, .data⟩, by simp, rfl, rfl⟩
            have x1 := Lib.hid y1
            clear y1
            have x3 := Lib.hid y3
            clear y3
            have x9 := Lib.hid y9
            clear y9
            have x11 := Lib.hid y11
            clear y11
            have hbV := hb.out x11.out
            have hsV := hbV.size
            have hb8 : Below w9.heap.size w9 (w9.alloc (.cells #[] 3)) := (Below.refl _ _).alloc (Nat.le_refl _) _
            have hz8 : w9.heap.size < (w9.alloc (.cells #[] 3)).heap.size := by simp
            have own0 : OwnI (w9.alloc (.cells #[] 3)) V.heap.size (.slice (some ⟨w9.heap.size, 0, none⟩) 0 0) [] := World.ownsRow_made (base := V.heap.size) (e := 3) (size := 1) w9 #[] 0 hsV (Nat.zero_le _) rfl
            go_wp2
            show I _ _ _
            rw [HIH.out]
            exact ⟨w9.heap.size, e1, t5, t11, v14, c14, _, _, _, _, _, _, _, _, _, _, _, _, _, _, _, _, _, hsz', rfl, (gx f0), (fun _ => rfl), (gx f2), (gx f3), (gx f4), (gx f5), (gx f6), (gx f7), (gx f8), (gx f9), (gx f10), (gx f11), (gx f12), (gx f13), (gx f14), (gx f15), (gx f16), (fun _ _ => own0), (fun h => absurd (gd h) (by rw [x3.out]; exact Bool.false_ne_true)), (fun h => absurd (gd h) (by rw [x9.out]; exact Bool.false_ne_true)), (fun h h' => keepCell hb8 (q8.out (gd h) (gd h'))), (fun _ => hz8), (fun h => Nat.lt_of_lt_of_le (qe.out (gd h)) hb8.size), (fun _ h => Nat.ne_of_gt (qe.out (gd h))), (fun _ => keepBelow hbV hb8), (fun h => absurd (gd h) (by rw [x11.out]; exact Bool.false_ne_true))⟩
           ·simp at hop
            subst hop
            refine wpOp_of_list (i := 2) rfl ?_
            go_wp2
            show I _ _ _
            rw [HIH.out]
            exact ⟨e0, e1, t5, t11, v14, c14, _, _, _, _, _, _, _, _, _, _, _, _, _, _, _, _, _, hsz', rfl, (gx f0), (gx f1), (fun _ => rfl), (gx f3), (gx f4), (gx f5), (gx f6), (gx f7), (gx f8), (gx f9), (gx f10), (gx f11), (gx f12), (gx f13), (gx f14), (gx f15), (gx f16), (gx2 q1), (gx2 q3), (gx2 q9), (gx2 q8), (gx ql), (gx qe), (gx2 qd), (fun h => hb.out (gd h)), (gx hk)⟩
           ·simp at hop
            subst hop
            refine wpOp_of_list (i := 3) rfl ?_
            have e103 := f1.out (hall ⟨1, .data⟩ (by simp) rfl)
            subst e103
            have e104 := f2.out (hall ⟨2, .data⟩ (by simp) rfl)
            subst e104
            have y3 := not_listed hj
            have y9 := hcl.off (i := 3) (j := 9) rfl y3 ⟨⟨3, .data⟩, by simp, rfl, rfl⟩
            have y11 := hcl.off (i := 9) (j := 11) rfl y9 ⟨⟨9, .data⟩, by simp, rfl, rfl⟩
            have x3 := Lib.hid y3
            clear y3
            have x9 := Lib.hid y9
            clear y9
            have x11 := Lib.hid y11
            clear y11
            have hbV := hb.out x11.out
            have hsV := hbV.size
            have hl1 := hall ⟨1, .data⟩ (by simp) rfl
            have own := q1.out hl1 x3.out
            have hlt0 := ql.out hl1
            have hpd : (ad = none ∧ cd = 0 ∧ natI dn = []) ∨ ∃ g k, ad = some ⟨g, k, none⟩ ∧ ∀ j, j < (natI dn).length → w9.cell? ⟨g, k + j, none⟩ = some (.int .i64 ((natI dn).getD j 0)) := by
             rcases HPD.out with h | ⟨g, k, h1, h2⟩
             ·exact Or.inl h
             ·exact Or.inr ⟨g, k, h1, fun j hj => keepCell hbV (h2 j hj)⟩
            refine app_intsG (N := natI dn) rfl (.tmp 103) (.tmp 104) rfl rfl own hsV rfl (natI_length dn).symm hpd (by rw [natI_length]; simp; have := HDL.out; omega) ?_
            intro v5 w8 o5 g5
            go_wp2
            rw [List.nil_append] at o5
            have hb8 : Below V.heap.size V w8 := hbV.grown g5 hsV (fun k hk => (own.lt k hk).1)
            show I _ _ _
            rw [HIH.out]
            exact ⟨e0, e1, v5, t11, v14, c14, _, _, _, _, _, _, _, _, _, _, _, _, _, _, _, _, _, hsz', rfl, (gx f0), (fun _ => rfl), (fun _ => rfl), (fun _ => rfl), (gx f4), (gx f5), (gx f6), (gx f7), (gx f8), (gx f9), (gx f10), (gx f11), (gx f12), (gx f13), (gx f14), (gx f15), (gx f16), (fun _ h => by rw [getD_self (by omega)] at h; cases h), (fun _ _ => o5), (fun h => absurd (gd h) (by rw [x9.out]; exact Bool.false_ne_true)), (fun h h' => g5.cell (q8.out (gd h) (gd h')) (by have hne := qd.out hl1 (gd h); intro hh; injection hh with hh; exact hne hh.symm)), (fun h => Nat.lt_of_lt_of_le (ql.out (gd h)) g5.size), (fun h => Nat.lt_of_lt_of_le (qe.out (gd h)) g5.size), (gx2 qd), (fun _ => hb8), (fun h => absurd (gd h) (by rw [x11.out]; exact Bool.false_ne_true))⟩
           ·simp at hop
            subst hop
            refine wpOp_of_list (i := 4) rfl ?_
            go_wp2
            show I _ _ _
            rw [HIH.out]
            exact ⟨e0, e1, t5, t11, v14, c14, _, _, _, _, _, _, _, _, _, _, _, _, _, _, _, _, _, hsz', rfl, (gx f0), (gx f1), (gx f2), (gx f3), (fun _ => rfl), (gx f5), (gx f6), (gx f7), (gx f8), (gx f9), (gx f10), (gx f11), (gx f12), (gx f13), (gx f14), (gx f15), (gx f16), (gx2 q1), (gx2 q3), (gx2 q9), (gx2 q8), (gx ql), (gx qe), (gx2 qd), (fun h => hb.out (gd h)), (gx hk)⟩
           ·simp at hop
            subst hop
            refine wpOp_of_list (i := 5) rfl ?_
            go_wp2
            show I _ _ _
            rw [HIH.out]
            exact ⟨e0, e1, t5, t11, v14, c14, _, _, _, _, _, _, _, _, _, _, _, _, _, _, _, _, _, hsz', rfl, (gx f0), (gx f1), (gx f2), (gx f3), (gx f4), (fun _ => rfl), (gx f6), (gx f7), (gx f8), (gx f9), (gx f10), (gx f11), (gx f12), (gx f13), (gx f14), (gx f15), (gx f16), (gx2 q1), (gx2 q3), (gx2 q9), (gx2 q8), (gx ql), (gx qe), (gx2 qd), (fun h => hb.out (gd h)), (gx hk)⟩
           ·simp at hop
            subst hop
            refine wpOp_of_list (i := 6) rfl ?_
            have e106 := f4.out (hall ⟨4, .data⟩ (by simp) rfl)
            subst e106
            have e107 := f5.out (hall ⟨5, .data⟩ (by simp) rfl)
            subst e107
            have hl := HLT8.out
            go_wp2
            show I _ _ _
            rw [HIH.out]
            exact ⟨e0, e1, t5, t11, v14, c14, _, _, _, _, _, _, _, _, _, _, _, _, _, _, _, _, _, hsz', rfl, (gx f0), (gx f1), (gx f2), (gx f3), (fun _ => rfl), (fun _ => rfl), (fun _ => rfl), (gx f7), (gx f8), (gx f9), (gx f10), (gx f11), (gx f12), (gx f13), (gx f14), (gx f15), (gx f16), (gx2 q1), (gx2 q3), (gx2 q9), (gx2 q8), (gx ql), (gx qe), (gx2 qd), (fun h => hb.out (gd h)), (gx hk)⟩
           ·simp at hop
            subst hop
            refine wpOp_of_list (i := 7) rfl ?_
            have e108 := f6.out (hall ⟨6, .data⟩ (by simp) rfl)
            subst e108
            have y7 := not_listed hj
            have y8 := hcl.off (i := 7) (j := 8) rfl y7 ⟨⟨7, .data⟩, by simp, rfl, rfl⟩
            have y9 := hcl.off (i := 8) (j := 9) rfl y8 ⟨⟨8, .data⟩, by simp, rfl, rfl⟩
            have y11 := hcl.off (i := 9) (j := 11) rfl y9 ⟨⟨9, .data⟩, by simp, rfl, rfl⟩
            have x7 := Lib.hid y7
            clear y7
            have x8 := Lib.hid y8
            clear y8
            have x9 := Lib.hid y9
            clear y9
            have x11 := Lib.hid y11
            clear y11
            have c0 := keepCell (hb.out x11.out) HVV.out
            go_wp2
            show I _ _ _
            rw [HIH.out]
            exact ⟨e0, e1, t5, t11, v14, c14, _, _, _, _, _, _, _, _, _, _, _, _, _, _, _, _, _, hsz', rfl, (gx f0), (gx f1), (gx f2), (gx f3), (gx f4), (gx f5), (fun _ => rfl), (fun _ => rfl), (gx f8), (gx f9), (gx f10), (gx f11), (gx f12), (gx f13), (gx f14), (gx f15), (gx f16), (gx2 q1), (gx2 q3), (gx2 q9), (gx2 q8), (gx ql), (gx qe), (gx2 qd), (fun h => hb.out (gd h)), (gx hk)⟩
           ·simp at hop
            subst hop
            refine wpOp_of_list (i := 8) rfl ?_
            have e109 := f7.out (hall ⟨7, .data⟩ (by simp) rfl)
            subst e109
            have y8 := not_listed hj
            have y9 := hcl.off (i := 8) (j := 9) rfl y8 ⟨⟨8, .data⟩, by simp, rfl, rfl⟩
            have y11 := hcl.off (i := 9) (j := 11) rfl y9 ⟨⟨9, .data⟩, by simp, rfl, rfl⟩
            have x8 := Lib.hid y8
            clear y8
            have x9 := Lib.hid y9
            clear y9
            have x11 := Lib.hid y11
            clear y11
            have hbV := hb.out x11.out
            have hsV := hbV.size
            have hb8 : Below w9.heap.size w9 (w9.alloc (.cells #[.int .i64 (i : Nat)] 3)) := (Below.refl _ _).alloc (Nat.le_refl _) _
            have hz8 : w9.heap.size < (w9.alloc (.cells #[.int .i64 (i : Nat)] 3)).heap.size := by simp
            have hc8 : (w9.alloc (.cells #[.int .i64 (i : Nat)] 3)).cell? ⟨w9.heap.size, 0, none⟩ = some (.int .i64 (i : Nat)) := by simp [go_sem]
            go_wp2
            show I _ _ _
            rw [HIH.out]
            exact ⟨e0, w9.heap.size, t5, t11, v14, c14, _, _, _, _, _, _, _, _, _, _, _, _, _, _, _, _, _, hsz', rfl, (gx f0), (gx f1), (gx f2), (gx f3), (gx f4), (gx f5), (gx f6), (fun _ => rfl), (fun _ => rfl), (gx f9), (gx f10), (gx f11), (gx f12), (gx f13), (gx f14), (gx f15), (gx f16), (fun h h' => (q1.out (gd h) (gd h')).alloc _), (fun h h' => (q3.out (gd h) (gd h')).alloc _), (fun h => absurd (gd h) (by rw [x9.out]; exact Bool.false_ne_true)), (fun _ _ => hc8), (fun h => Nat.lt_of_lt_of_le (ql.out (gd h)) hb8.size), (fun _ => hz8), (fun h _ => Nat.ne_of_lt (ql.out (gd h))), (fun _ => keepBelow hbV hb8), (fun h => absurd (gd h) (by rw [x11.out]; exact Bool.false_ne_true))⟩
           ·simp at hop
            subst hop
            refine wpOp_of_list (i := 9) rfl ?_
            have e105 := f3.out (hall ⟨3, .data⟩ (by simp) rfl)
            subst e105
            have e110 := f8.out (hall ⟨8, .data⟩ (by simp) rfl)
            subst e110
            have y9 := not_listed hj
            have y11 := hcl.off (i := 9) (j := 11) rfl y9 ⟨⟨9, .data⟩, by simp, rfl, rfl⟩
            have x9 := Lib.hid y9
            clear y9
            have x11 := Lib.hid y11
            clear y11
            have hbV := hb.out x11.out
            have hsV := hbV.size
            have hl3 := hall ⟨3, .data⟩ (by simp) rfl
            have hl8 := hall ⟨8, .data⟩ (by simp) rfl
            have own := q3.out hl3 x9.out
            have hc8 := q8.out hl8 x9.out
            refine app_intsG (N := [(i : Int)]) rfl (.tmp 105) (.tmp 110) rfl rfl own hsV rfl rfl (.inr ⟨e1, 0, rfl, fun j hj => by (have hj0 : j = 0 := by simpa using hj); subst hj0; exact hc8⟩) (by rw [natI_length]; simp; have := HDL.out; omega) ?_
            intro v5 w8 o5 g5
            go_wp2
            rw [← natI_append] at o5
            have hb8 : Below V.heap.size V w8 := hbV.grown g5 hsV (fun k hk => (own.lt k hk).1)
            show I _ _ _
            rw [HIH.out]
            exact ⟨e0, e1, _, v5, v14, c14, _, _, _, _, _, _, _, _, _, _, _, _, _, _, _, _, _, hsz', rfl, (gx f0), (gx f1), (gx f2), (fun _ => rfl), (gx f4), (gx f5), (gx f6), (gx f7), (fun _ => rfl), (fun _ => rfl), (gx f10), (gx f11), (gx f12), (gx f13), (gx f14), (gx f15), (gx f16), (fun _ h => absurd (gd h) (by rw [hl3]; decide)), (fun _ h => by rw [getD_self (by omega)] at h; cases h), (fun _ _ => o5), (fun _ h => by rw [getD_self (by omega)] at h; cases h), (fun h => Nat.lt_of_lt_of_le (ql.out (gd h)) g5.size), (fun h => Nat.lt_of_lt_of_le (qe.out (gd h)) g5.size), (gx2 qd), (fun _ => hb8), (fun h => absurd (gd h) (by rw [x11.out]; exact Bool.false_ne_true))⟩
           ·simp at hop
            subst hop
            refine wpOp_of_list (i := 10) rfl ?_
            go_wp2
            show I _ _ _
            rw [HIH.out]
            exact ⟨e0, e1, t5, t11, v14, c14, _, _, _, _, _, _, _, _, _, _, _, _, _, _, _, _, _, hsz', rfl, (gx f0), (gx f1), (gx f2), (gx f3), (gx f4), (gx f5), (gx f6), (gx f7), (gx f8), (gx f9), (fun _ => rfl), (gx f11), (gx f12), (gx f13), (gx f14), (gx f15), (gx f16), (gx2 q1), (gx2 q3), (gx2 q9), (gx2 q8), (gx ql), (gx qe), (gx2 qd), (fun h => hb.out (gd h)), (gx hk)⟩
           ·simp at hop
            subst hop
            refine wpOp_of_list (i := 11) rfl ?_
            have e102 := f0.out (hall ⟨0, .data⟩ (by simp) rfl)
            subst e102
            have e111 := f9.out (hall ⟨9, .data⟩ (by simp) rfl)
            subst e111
            have e112 := f10.out (hall ⟨10, .data⟩ (by simp) rfl)
            subst e112
            have y11 := not_listed hj
            have y12 := hcl.off (i := 11) (j := 12) rfl y11 ⟨⟨11, .data⟩, by simp, rfl, rfl⟩
            have y13 := hcl.off (i := 12) (j := 13) rfl y12 ⟨⟨12, .data⟩, by simp, rfl, rfl⟩
            have y14 := hcl.off (i := 12) (j := 14) rfl y12 ⟨⟨12, .data⟩, by simp, rfl, rfl⟩
            have y15 := hcl.off (i := 13) (j := 15) rfl y13 ⟨⟨13, .data⟩, by simp, rfl, rfl⟩
            have y16 := hcl.off (i := 14) (j := 16) rfl y14 ⟨⟨14, .data⟩, by simp, rfl, rfl⟩
            have x16 := Lib.hid y16
            clear y16
            have x15 := Lib.hid y15
            clear y15
            have x14 := Lib.hid y14
            clear y14
            have x13 := Lib.hid y13
            clear y13
            have x12 := Lib.hid y12
            clear y12
            have hbV := hb.out y11
            have hl9 := hall ⟨9, .data⟩ (by simp) rfl
            have hl3 := hcl 9 _ hl9 rfl ⟨3, .data⟩ (by simp) rfl
            have own := q9.out hl9 y11
            have hcall := HCR.out w9 _ hbV own
            clear y11
            go_wp2_with (go_at_call 48; refine hcall.mono ?_; rintro e' w8 ⟨v8, c8', rfl, hk8, hr8⟩)
            have hkV : K3 w0.heap.size b b b V w8 := (K3.of (B := w0.heap.size) (b := b) (ba := b) (bd := b) HWV.out hbV).trans hk8
            have hz8 := hk8.1.size
            show I _ _ _
            rw [HIH.out]
            exact ⟨e0, e1, t5, _, v8, c8', _, _, _, _, _, _, _, _, _, _, _, _, _, _, _, _, _, hsz', rfl, (fun _ => rfl), (gx f1), (gx f2), (gx f3), (gx f4), (gx f5), (gx f6), (gx f7), (gx f8), (fun _ => rfl), (fun _ => rfl), (fun _ => rfl), (fun h => absurd (gd h) (by rw [x12.out]; exact Bool.false_ne_true)), (fun h => absurd (gd h) (by rw [x13.out]; exact Bool.false_ne_true)), (fun h => absurd (gd h) (by rw [x14.out]; exact Bool.false_ne_true)), (fun h => absurd (gd h) (by rw [x15.out]; exact Bool.false_ne_true)), (fun h => absurd (gd h) (by rw [x16.out]; exact Bool.false_ne_true)), (fun _ h => absurd (gd h) (by rw [hl3]; decide)), (fun _ h => absurd (gd h) (by rw [hl9]; decide)), (fun _ h => by rw [getD_self (by omega)] at h; cases h), (fun _ h => absurd (gd h) (by rw [hl9]; decide)), (fun h => Nat.lt_of_lt_of_le (ql.out (gd h)) hz8), (fun h => Nat.lt_of_lt_of_le (qe.out (gd h)) hz8), (gx2 qd), (fun h => by rw [getD_self (by omega)] at h; cases h), (fun _ => ⟨hkV, hr8⟩)⟩
           ·simp at hop
            subst hop
            refine wpOp_of_list (i := 12) rfl ?_
            have e113 := f11.out (hall ⟨11, .data⟩ (by simp) rfl)
            subst e113
            go_wp2
            show I _ _ _
            rw [HIH.out]
            exact ⟨e0, e1, t5, t11, v14, c14, _, _, _, _, _, _, _, _, _, _, _, _, _, _, _, _, _, hsz', rfl, (gx f0), (gx f1), (gx f2), (gx f3), (gx f4), (gx f5), (gx f6), (gx f7), (gx f8), (gx f9), (gx f10), (fun _ => rfl), (fun _ => rfl), (gx f13), (gx f14), (gx f15), (gx f16), (gx2 q1), (gx2 q3), (gx2 q9), (gx2 q8), (gx ql), (gx qe), (gx2 qd), (fun h => hb.out (gd h)), (gx hk)⟩
           ·simp at hop
            subst hop
            refine wpOp_of_list (i := 13) rfl ?_
            have e101 := f12.out (hall ⟨12, .data⟩ (by simp) rfl)
            subst e101
            go_wp2
            show I _ _ _
            rw [HIH.out]
            exact ⟨e0, e1, t5, t11, v14, c14, _, _, _, _, _, _, _, _, _, _, _, _, _, _, _, _, _, hsz', rfl, (gx f0), (gx f1), (gx f2), (gx f3), (gx f4), (gx f5), (gx f6), (gx f7), (gx f8), (gx f9), (gx f10), (gx f11), (fun _ => rfl), (fun _ => rfl), (gx f14), (gx f15), (gx f16), (gx2 q1), (gx2 q3), (gx2 q9), (gx2 q8), (gx ql), (gx qe), (gx2 qd), (fun h => hb.out (gd h)), (gx hk)⟩
           ·simp at hop
            subst hop
            refine wpOp_of_list (i := 14) rfl ?_
            have e101 := f12.out (hall ⟨12, .data⟩ (by simp) rfl)
            subst e101
            go_wp2
            show I _ _ _
            rw [HIH.out]
            exact ⟨e0, e1, t5, t11, v14, c14, _, _, _, _, _, _, _, _, _, _, _, _, _, _, _, _, _, hsz', rfl, (gx f0), (gx f1), (gx f2), (gx f3), (gx f4), (gx f5), (gx f6), (gx f7), (gx f8), (gx f9), (gx f10), (gx f11), (fun _ => rfl), (gx f13), (fun _ => rfl), (gx f15), (gx f16), (gx2 q1), (gx2 q3), (gx2 q9), (gx2 q8), (gx ql), (gx qe), (gx2 qd), (fun h => hb.out (gd h)), (gx hk)⟩
           ·simp at hop
            subst hop
            refine wpOp_of_list (i := 15) rfl ?_
            have e114 := f13.out (hall ⟨13, .data⟩ (by simp) rfl)
            subst e114
            go_wp2
            show I _ _ _
            rw [HIH.out]
            exact ⟨e0, e1, t5, t11, _, c14, _, _, _, _, _, _, _, _, _, _, _, _, _, _, _, _, _, hsz', rfl, (gx f0), (gx f1), (gx f2), (gx f3), (gx f4), (gx f5), (gx f6), (gx f7), (gx f8), (gx f9), (gx f10), (gx f11), (gx f12), (fun _ => rfl), (gx f14), (fun _ => rfl), (gx f16), (gx2 q1), (gx2 q3), (gx2 q9), (gx2 q8), (gx ql), (gx qe), (gx2 qd), (fun h => hb.out (gd h)), (gx hk)⟩
           ·simp at hop
            subst hop
            refine wpOp_of_list (i := 16) rfl ?_
            have e115 := f14.out (hall ⟨14, .data⟩ (by simp) rfl)
            subst e115
            go_wp2
            show I _ _ _
            rw [HIH.out]
            exact ⟨e0, e1, t5, t11, v14, c14, _, _, _, _, _, _, _, _, _, _, _, _, _, _, _, _, _, hsz', rfl, (gx f0), (gx f1), (gx f2), (gx f3), (gx f4), (gx f5), (gx f6), (gx f7), (gx f8), (gx f9), (gx f10), (gx f11), (gx f12), (gx f13), (fun _ => rfl), (gx f15), (fun _ => rfl), (gx2 q1), (gx2 q3), (gx2 q9), (gx2 q8), (gx ql), (gx qe), (gx2 qd), (fun h => hb.out (gd h)), (gx hk)⟩
         case refine_1 =>
          intro ls a9 w9 i' hI hcl hi'
          rw [HIH.out] at hI
          obtain ⟨u94, u95, u96, u97, u98, u99, u100, hsz, rfl, f0, f1, f2, f3, f4, f5, f6, wa, wb⟩ := hI
          obtain ⟨hj, op, hop, hall⟩ := mem_ready.1 hi'
          have hlt' := (Array.getElem?_eq_some_iff.1 hop).1
          have hlt' : i' < 8 := hlt'
          have hsz' : (ls.setIfInBounds i' true).size = 8 := by rw [Array.size_setIfInBounds]; exact hsz
          rcases (show i' = 0 ∨ i' = 1 ∨ i' = 2 ∨ i' = 3 ∨ i' = 4 ∨ i' = 5 ∨ i' = 6 ∨ i' = 7 by omega) with rfl | rfl | rfl | rfl | rfl | rfl | rfl | rfl
          ·simp at hop
           subst hop
           refine wpOp_of_list (i := 0) rfl ?_
           go_wp2
           show I _ _ _
           rw [HIH.out]
           exact ⟨_, _, _, _, _, _, _, hsz', rfl, (fun _ => rfl), (gx f1), (gx f2), (gx f3), (gx f4), (gx f5), (gx f6), (fun h => wa.out (gd h)), (fun h => wb.out (gd h))⟩
          ·simp at hop
           subst hop
           refine wpOp_of_list (i := 1) rfl ?_
           go_wp2
           show I _ _ _
           rw [HIH.out]
           exact ⟨_, _, _, _, _, _, _, hsz', rfl, (gx f0), (fun _ => rfl), (gx f2), (gx f3), (gx f4), (gx f5), (gx f6), (fun h => wa.out (gd h)), (fun h => wb.out (gd h))⟩
          ·simp at hop
           subst hop
           refine wpOp_of_list (i := 2) rfl ?_
           go_wp2
           show I _ _ _
           rw [HIH.out]
           exact ⟨_, _, _, _, _, _, _, hsz', rfl, (gx f0), (gx f1), (fun _ => rfl), (gx f3), (gx f4), (gx f5), (gx f6), (fun h => wa.out (gd h)), (fun h => wb.out (gd h))⟩
          ·simp at hop
           subst hop
           refine wpOp_of_list (i := 3) rfl ?_
           have e95 := f1.out (hall ⟨1, .data⟩ (by simp) rfl)
           subst e95
           have e96 := f2.out (hall ⟨2, .data⟩ (by simp) rfl)
           subst e96
           have hl := HLT8.out
           go_wp2
           show I _ _ _
           rw [HIH.out]
           exact ⟨_, _, _, _, _, _, _, hsz', rfl, (gx f0), (fun _ => rfl), (fun _ => rfl), (fun _ => rfl), (gx f4), (gx f5), (gx f6), (fun h => wa.out (gd h)), (fun h => wb.out (gd h))⟩
          ·simp at hop
           subst hop
           refine wpOp_of_list (i := 4) rfl ?_
           have e97 := f3.out (hall ⟨3, .data⟩ (by simp) rfl)
           subst e97
           have y4 := not_listed hj
           have y6 := hcl.off (i := 4) (j := 6) rfl y4 ⟨⟨4, .data⟩, by simp, rfl, rfl⟩
           have y7 := hcl.off (i := 6) (j := 7) rfl y6 ⟨⟨6, .data⟩, by simp, rfl, rfl⟩
           have x4 := Lib.hid y4
           clear y4
           have x6 := Lib.hid y6
           clear y6
           have x7 := Lib.hid y7
           clear y7
           have hw := wa.out x7.out
           subst hw
           have c0 := HV1.out
           go_wp2
           show I _ _ _
           rw [HIH.out]
           exact ⟨_, _, _, _, _, _, _, hsz', rfl, (gx f0), (gx f1), (gx f2), (fun _ => rfl), (fun _ => rfl), (gx f5), (gx f6), (fun _ => rfl), (fun h => absurd (gd h) (by rw [x7.out]; exact Bool.false_ne_true))⟩
          ·simp at hop
           subst hop
           refine wpOp_of_list (i := 5) rfl ?_
           have y5 := not_listed hj
           have y7 := hcl.off (i := 5) (j := 7) rfl y5 ⟨⟨5, .data⟩, by simp, rfl, rfl⟩
           have x5 := Lib.hid y5
           clear y5
           have x7 := Lib.hid y7
           clear y7
           have hw := wa.out x7.out
           subst hw
           obtain ⟨z0, z1, z2, z3⟩ := HBX1.out
           go_wp2
           show I _ _ _
           rw [HIH.out]
           exact ⟨_, _, _, _, _, _, _, hsz', rfl, (gx f0), (gx f1), (gx f2), (gx f3), (gx f4), (fun _ => rfl), (gx f6), (fun _ => rfl), (fun h => absurd (gd h) (by rw [x7.out]; exact Bool.false_ne_true))⟩
          ·simp at hop
           subst hop
           refine wpOp_of_list (i := 6) rfl ?_
           have e94 := f0.out (hall ⟨0, .data⟩ (by simp) rfl)
           subst e94
           have e98 := f4.out (hall ⟨4, .data⟩ (by simp) rfl)
           subst e98
           have hl := HIA.out
           go_wp2
           show I _ _ _
           rw [HIH.out]
           exact ⟨_, _, _, _, _, _, _, hsz', rfl, (fun _ => rfl), (gx f1), (gx f2), (gx f3), (fun _ => rfl), (gx f5), (fun _ => rfl), (fun h => wa.out (gd h)), (fun h => wb.out (gd h))⟩
          ·simp at hop
           subst hop
           refine wpOp_of_list (i := 7) rfl ?_
           have e100 := f6.out (hall ⟨6, .data⟩ (by simp) rfl)
           subst e100
           have e99 := f5.out (hall ⟨5, .data⟩ (by simp) rfl)
           subst e99
           have y7 := not_listed hj
           have hw := wa.out y7
           subst hw
           clear y7
           obtain ⟨⟨k0, k1⟩, k2, k3⟩ := HROW.out i HIA.out
           go_wp2
           show I _ _ _
           rw [HIH.out]
           exact ⟨_, _, _, _, _, _, _, hsz', rfl, (gx f0), (gx f1), (gx f2), (gx f3), (gx f4), (fun _ => rfl), (fun _ => rfl), (fun h => by rw [getD_self (by omega)] at h; cases h), (fun _ => rfl)⟩
      case refine_1 =>
       intro ls a9 w9 i' hI hcl hi'
       rw [HIH.out] at hI
       obtain ⟨β, u60, u61, u62, u63, u64, u65, u66, u67, u68, u69, u70, u71, u72, u73, u74, u75, u76, u77, u78, u79, u80, u81, u11, u12, hsz, rfl, hB, f0, f1, f2, f3, f4, f5, f6, f7, f8, f9, f10, f11, f12, f13, f14, f15, f16, f17, f18, f19, f20, f21, f22, f24, rb, b0, b1⟩ := hI
       obtain ⟨hj, op, hop, hall⟩ := mem_ready.1 hi'
       have hlt' := (Array.getElem?_eq_some_iff.1 hop).1
       have hlt' : i' < 25 := hlt'
       have hsz' : (ls.setIfInBounds i' true).size = 25 := by rw [Array.size_setIfInBounds]; exact hsz
       rcases (show i' = 0 ∨ i' = 1 ∨ i' = 2 ∨ i' = 3 ∨ i' = 4 ∨ i' = 5 ∨ i' = 6 ∨ i' = 7 ∨ i' = 8 ∨ i' = 9 ∨ i' = 10 ∨ i' = 11 ∨ i' = 12 ∨ i' = 13 ∨ i' = 14 ∨ i' = 15 ∨ i' = 16 ∨ i' = 17 ∨ i' = 18 ∨ i' = 19 ∨ i' = 20 ∨ i' = 21 ∨ i' = 22 ∨ i' = 23 ∨ i' = 24 by omega) with rfl | rfl | rfl | rfl | rfl | rfl | rfl | rfl | rfl | rfl | rfl | rfl | rfl | rfl | rfl | rfl | rfl | rfl | rfl | rfl | rfl | rfl | rfl | rfl | rfl
       ·simp at hop
        subst hop
        refine wpOp_of_list (i := 0) rfl ?_
        go_wp2
        show I _ _ _
        rw [HIH.out]
        exact ⟨β, _, _, _, _, _, _, _, _, _, _, _, _, _, _, _, _, _, _, _, _, _, _, _, _, hsz', rfl, (hB), (fun _ => rfl), (gx f1), (gx f2), (gx f3), (gx f4), (gx f5), (gx f6), (gx f7), (gx f8), (gx f9), (gx f10), (gx f11), (gx f12), (gx f13), (gx f14), (gx f15), (gx f16), (gx f17), (gx f18), (gx f19), (gx f20), (gx f21), (gx f22), (gx f24), (gx rb), (fun h h' => b0.out (gd h) (gd h')), (gx b1)⟩
       ·simp at hop
        subst hop
        refine wpOp_of_list (i := 1) rfl ?_
        have e61 := f0.out (hall ⟨0, .data⟩ (by simp) rfl)
        subst e61
        go_wp2
        show I _ _ _
        rw [HIH.out]
        exact ⟨β, _, _, _, _, _, _, _, _, _, _, _, _, _, _, _, _, _, _, _, _, _, _, _, _, hsz', rfl, (hB), (fun _ => rfl), (fun _ => rfl), (gx f2), (gx f3), (gx f4), (gx f5), (gx f6), (gx f7), (gx f8), (gx f9), (gx f10), (gx f11), (gx f12), (gx f13), (gx f14), (gx f15), (gx f16), (gx f17), (gx f18), (gx f19), (gx f20), (gx f21), (gx f22), (gx f24), (gx rb), (fun h h' => b0.out (gd h) (gd h')), (gx b1)⟩
       ·simp at hop
        subst hop
        refine wpOp_of_list (i := 2) rfl ?_
        have e62 := f1.out (hall ⟨1, .data⟩ (by simp) rfl)
        subst e62
        go_wp2
        show I _ _ _
        rw [HIH.out]
        exact ⟨β, _, _, _, _, _, _, _, _, _, _, _, _, _, _, _, _, _, _, _, _, _, _, _, _, hsz', rfl, (hB), (gx f0), (fun _ => rfl), (fun _ => rfl), (gx f3), (gx f4), (gx f5), (gx f6), (gx f7), (gx f8), (gx f9), (gx f10), (gx f11), (gx f12), (gx f13), (gx f14), (gx f15), (gx f16), (gx f17), (gx f18), (gx f19), (gx f20), (gx f21), (gx f22), (gx f24), (gx rb), (fun h h' => b0.out (gd h) (gd h')), (gx b1)⟩
       ·simp at hop
        subst hop
        refine wpOp_of_list (i := 3) rfl ?_
        have e63 := f2.out (hall ⟨2, .data⟩ (by simp) rfl)
        subst e63
        have c0 := keepCell hB HSY.out.c1
        rw [HEVR.out] at c0
        go_wp2
        show I _ _ _
        rw [HIH.out]
        exact ⟨β, _, _, _, _, _, _, _, _, _, _, _, _, _, _, _, _, _, _, _, _, _, _, _, _, hsz', rfl, (hB), (gx f0), (gx f1), (fun _ => rfl), (fun _ => rfl), (gx f4), (gx f5), (gx f6), (gx f7), (gx f8), (gx f9), (gx f10), (gx f11), (gx f12), (gx f13), (gx f14), (gx f15), (gx f16), (gx f17), (gx f18), (gx f19), (gx f20), (gx f21), (gx f22), (gx f24), (gx rb), (fun h h' => b0.out (gd h) (gd h')), (gx b1)⟩
       ·simp at hop
        subst hop
        refine wpOp_of_list (i := 4) rfl ?_
        go_wp2
        show I _ _ _
        rw [HIH.out]
        exact ⟨β, _, _, _, _, _, _, _, _, _, _, _, _, _, _, _, _, _, _, _, _, _, _, _, _, hsz', rfl, (hB), (gx f0), (gx f1), (gx f2), (gx f3), (fun _ => rfl), (gx f5), (gx f6), (gx f7), (gx f8), (gx f9), (gx f10), (gx f11), (gx f12), (gx f13), (gx f14), (gx f15), (gx f16), (gx f17), (gx f18), (gx f19), (gx f20), (gx f21), (gx f22), (gx f24), (gx rb), (fun h h' => b0.out (gd h) (gd h')), (gx b1)⟩
       ·simp at hop
        subst hop
        refine wpOp_of_list (i := 5) rfl ?_
        have e65 := f4.out (hall ⟨4, .data⟩ (by simp) rfl)
        subst e65
        have c0 := keepCell hB HTY.out.2.2.1
        go_wp2
        show I _ _ _
        rw [HIH.out]
        exact ⟨β, _, _, _, _, _, _, _, _, _, _, _, _, _, _, _, _, _, _, _, _, _, _, _, _, hsz', rfl, (hB), (gx f0), (gx f1), (gx f2), (gx f3), (fun _ => rfl), (fun _ => rfl), (gx f6), (gx f7), (gx f8), (gx f9), (gx f10), (gx f11), (gx f12), (gx f13), (gx f14), (gx f15), (gx f16), (gx f17), (gx f18), (gx f19), (gx f20), (gx f21), (gx f22), (gx f24), (gx rb), (fun h h' => b0.out (gd h) (gd h')), (gx b1)⟩
       ·simp at hop
        subst hop
        refine wpOp_of_list (i := 6) rfl ?_
        have e64 := f3.out (hall ⟨3, .data⟩ (by simp) rfl)
        subst e64
        have e66 := f5.out (hall ⟨5, .data⟩ (by simp) rfl)
        subst e66
        have hl := HRO.out.2.2
        go_wp2
        show I _ _ _
        rw [HIH.out]
        exact ⟨β, _, _, _, _, _, _, _, _, _, _, _, _, _, _, _, _, _, _, _, _, _, _, _, _, hsz', rfl, (hB), (gx f0), (gx f1), (gx f2), (fun _ => rfl), (gx f4), (fun _ => rfl), (fun _ => rfl), (gx f7), (gx f8), (gx f9), (gx f10), (gx f11), (gx f12), (gx f13), (gx f14), (gx f15), (gx f16), (gx f17), (gx f18), (gx f19), (gx f20), (gx f21), (gx f22), (gx f24), (gx rb), (fun h h' => b0.out (gd h) (gd h')), (gx b1)⟩
       ·simp at hop
        subst hop
        refine wpOp_of_list (i := 7) rfl ?_
        have e67 := f6.out (hall ⟨6, .data⟩ (by simp) rfl)
        subst e67
        obtain ⟨q0, q1, q2, q3, q4, q5, q6⟩ := HC7.out
        have c0 := keepCell hB q0
        have c1 := keepCell hB q1
        have c2 := keepCell hB q2
        have c3 := keepCell hB q3
        have c4 := keepCell hB q4
        have c5 := keepCell hB q5
        have c6 := keepCell hB q6
        go_wp2
        show I _ _ _
        rw [HIH.out]
        exact ⟨β, _, _, _, _, _, _, _, _, _, _, _, _, _, _, _, _, _, _, _, _, _, _, _, _, hsz', rfl, (hB), (gx f0), (gx f1), (gx f2), (gx f3), (gx f4), (gx f5), (fun _ => rfl), (fun _ => rfl), (gx f8), (gx f9), (gx f10), (gx f11), (gx f12), (gx f13), (gx f14), (gx f15), (gx f16), (gx f17), (gx f18), (gx f19), (gx f20), (gx f21), (gx f22), (gx f24), (gx rb), (fun h h' => b0.out (gd h) (gd h')), (gx b1)⟩
       ·simp at hop
        subst hop
        refine wpOp_of_list (i := 8) rfl ?_
        go_wp2
        show I _ _ _
        rw [HIH.out]
        exact ⟨β, _, _, _, _, _, _, _, _, _, _, _, _, _, _, _, _, _, _, _, _, _, _, _, _, hsz', rfl, (hB), (gx f0), (gx f1), (gx f2), (gx f3), (gx f4), (gx f5), (gx f6), (gx f7), (fun _ => rfl), (gx f9), (gx f10), (gx f11), (gx f12), (gx f13), (gx f14), (gx f15), (gx f16), (gx f17), (gx f18), (gx f19), (gx f20), (gx f21), (gx f22), (gx f24), (gx rb), (fun h h' => b0.out (gd h) (gd h')), (gx b1)⟩
       ·simp at hop
        subst hop
        refine wpOp_of_list (i := 9) rfl ?_
        have e69 := f8.out (hall ⟨8, .data⟩ (by simp) rfl)
        subst e69
        have c0 := keepCell hB HTY.out.2.1
        go_wp2
        show I _ _ _
        rw [HIH.out]
        exact ⟨β, _, _, _, _, _, _, _, _, _, _, _, _, _, _, _, _, _, _, _, _, _, _, _, _, hsz', rfl, (hB), (gx f0), (gx f1), (gx f2), (gx f3), (gx f4), (gx f5), (gx f6), (gx f7), (fun _ => rfl), (fun _ => rfl), (gx f10), (gx f11), (gx f12), (gx f13), (gx f14), (gx f15), (gx f16), (gx f17), (gx f18), (gx f19), (gx f20), (gx f21), (gx f22), (gx f24), (gx rb), (fun h h' => b0.out (gd h) (gd h')), (gx b1)⟩
       ·simp at hop
        subst hop
        refine wpOp_of_list (i := 10) rfl ?_
        go_wp2
        show I _ _ _
        rw [HIH.out]
        exact ⟨β, _, _, _, _, _, _, _, _, _, _, _, _, _, _, _, _, _, _, _, _, _, _, _, _, hsz', rfl, (hB), (gx f0), (gx f1), (gx f2), (gx f3), (gx f4), (gx f5), (gx f6), (gx f7), (gx f8), (gx f9), (fun _ => rfl), (gx f11), (gx f12), (gx f13), (gx f14), (gx f15), (gx f16), (gx f17), (gx f18), (gx f19), (gx f20), (gx f21), (gx f22), (gx f24), (gx rb), (fun h h' => b0.out (gd h) (gd h')), (gx b1)⟩
       ·simp at hop
        subst hop
        refine wpOp_of_list (i := 11) rfl ?_
        go_wp2
        show I _ _ _
        rw [HIH.out]
        exact ⟨β, _, _, _, _, _, _, _, _, _, _, _, _, _, _, _, _, _, _, _, _, _, _, _, _, hsz', rfl, (hB), (gx f0), (gx f1), (gx f2), (gx f3), (gx f4), (gx f5), (gx f6), (gx f7), (gx f8), (gx f9), (gx f10), (fun _ => rfl), (gx f12), (gx f13), (gx f14), (gx f15), (gx f16), (gx f17), (gx f18), (gx f19), (gx f20), (gx f21), (gx f22), (gx f24), (gx rb), (fun h h' => b0.out (gd h) (gd h')), (gx b1)⟩
       ·simp at hop
        subst hop
        refine wpOp_of_list (i := 12) rfl ?_
        go_wp2
        show I _ _ _
        rw [HIH.out]
        exact ⟨β, _, _, _, _, _, _, _, _, _, _, _, _, _, _, _, _, _, _, _, _, _, _, _, _, hsz', rfl, (hB), (gx f0), (gx f1), (gx f2), (gx f3), (gx f4), (gx f5), (gx f6), (gx f7), (gx f8), (gx f9), (gx f10), (gx f11), (fun _ => rfl), (gx f13), (gx f14), (gx f15), (gx f16), (gx f17), (gx f18), (gx f19), (gx f20), (gx f21), (gx f22), (gx f24), (gx rb), (fun h h' => b0.out (gd h) (gd h')), (gx b1)⟩
       ·simp at hop
        subst hop
        refine wpOp_of_list (i := 13) rfl ?_
        go_wp2
        show I _ _ _
        rw [HIH.out]
        exact ⟨β, _, _, _, _, _, _, _, _, _, _, _, _, _, _, _, _, _, _, _, _, _, _, _, _, hsz', rfl, (hB), (gx f0), (gx f1), (gx f2), (gx f3), (gx f4), (gx f5), (gx f6), (gx f7), (gx f8), (gx f9), (gx f10), (gx f11), (gx f12), (fun _ => rfl), (gx f14), (gx f15), (gx f16), (gx f17), (gx f18), (gx f19), (gx f20), (gx f21), (gx f22), (gx f24), (gx rb), (fun h h' => b0.out (gd h) (gd h')), (gx b1)⟩
       ·simp at hop
        subst hop
        refine wpOp_of_list (i := 14) rfl ?_
        go_wp2
        show I _ _ _
        rw [HIH.out]
        exact ⟨β, _, _, _, _, _, _, _, _, _, _, _, _, _, _, _, _, _, _, _, _, _, _, _, _, hsz', rfl, (hB), (gx f0), (gx f1), (gx f2), (gx f3), (gx f4), (gx f5), (gx f6), (gx f7), (gx f8), (gx f9), (gx f10), (gx f11), (gx f12), (gx f13), (fun _ => rfl), (gx f15), (gx f16), (gx f17), (gx f18), (gx f19), (gx f20), (gx f21), (gx f22), (gx f24), (gx rb), (fun h h' => b0.out (gd h) (gd h')), (gx b1)⟩
       ·simp at hop
        subst hop
        refine wpOp_of_list (i := 15) rfl ?_
        have e74 := f13.out (hall ⟨13, .data⟩ (by simp) rfl)
        subst e74
        have e75 := f14.out (hall ⟨14, .data⟩ (by simp) rfl)
        subst e75
        have hl := HLT8.out
        go_wp2
        show I _ _ _
        rw [HIH.out]
        exact ⟨β, _, _, _, _, _, _, _, _, _, _, _, _, _, _, _, _, _, _, _, _, _, _, _, _, hsz', rfl, (hB), (gx f0), (gx f1), (gx f2), (gx f3), (gx f4), (gx f5), (gx f6), (gx f7), (gx f8), (gx f9), (gx f10), (gx f11), (gx f12), (fun _ => rfl), (fun _ => rfl), (fun _ => rfl), (gx f16), (gx f17), (gx f18), (gx f19), (gx f20), (gx f21), (gx f22), (gx f24), (gx rb), (fun h h' => b0.out (gd h) (gd h')), (gx b1)⟩
       ·simp at hop
        subst hop
        refine wpOp_of_list (i := 16) rfl ?_
        have e76 := f15.out (hall ⟨15, .data⟩ (by simp) rfl)
        subst e76
        have c0 := keepCell hB HVY.out
        go_wp2
        show I _ _ _
        rw [HIH.out]
        exact ⟨β, _, _, _, _, _, _, _, _, _, _, _, _, _, _, _, _, _, _, _, _, _, _, _, _, hsz', rfl, (hB), (gx f0), (gx f1), (gx f2), (gx f3), (gx f4), (gx f5), (gx f6), (gx f7), (gx f8), (gx f9), (gx f10), (gx f11), (gx f12), (gx f13), (gx f14), (fun _ => rfl), (fun _ => rfl), (gx f17), (gx f18), (gx f19), (gx f20), (gx f21), (gx f22), (gx f24), (gx rb), (fun h h' => b0.out (gd h) (gd h')), (gx b1)⟩
       ·simp at hop
        subst hop
        refine wpOp_of_list (i := 17) rfl ?_
        have e71 := f10.out (hall ⟨10, .data⟩ (by simp) rfl)
        subst e71
        have e72 := f11.out (hall ⟨11, .data⟩ (by simp) rfl)
        subst e72
        have e73 := f12.out (hall ⟨12, .data⟩ (by simp) rfl)
        subst e73
        have e77 := f16.out (hall ⟨16, .data⟩ (by simp) rfl)
        subst e77
        go_wp2_with (go_at_call 79; refine (HFR.out _ hB).mono ?_; rintro e9 w8 ⟨rfl, hb8⟩)
        show I _ _ _
        rw [HIH.out]
        exact ⟨β, _, _, _, _, _, _, _, _, _, _, _, _, _, _, _, _, _, _, _, _, _, _, _, _, hsz', rfl, (keepBelow hB hb8), (gx f0), (gx f1), (gx f2), (gx f3), (gx f4), (gx f5), (gx f6), (gx f7), (gx f8), (gx f9), (fun _ => rfl), (fun _ => rfl), (fun _ => rfl), (gx f13), (gx f14), (gx f15), (fun _ => rfl), (fun _ => rfl), (gx f18), (gx f19), (gx f20), (gx f21), (gx f22), (gx f24), (gx rb), (fun h h' => (b0.out (gd h) (gd h')).below hb8), (fun h => (b1.out (gd h)).below hb8)⟩
       ·simp at hop
        subst hop
        refine wpOp_of_list (i := 18) rfl ?_
        have e68 := f7.out (hall ⟨7, .data⟩ (by simp) rfl)
        subst e68
        have e70 := f9.out (hall ⟨9, .data⟩ (by simp) rfl)
        subst e70
        have e78 := f17.out (hall ⟨17, .data⟩ (by simp) rfl)
        subst e78
        go_wp2_with (go_at_call 78; refine (HEA.out _ hB).mono ?_; rintro e9 w8 ⟨rfl, hb8⟩)
        show I _ _ _
        rw [HIH.out]
        exact ⟨β, _, _, _, _, _, _, _, _, _, _, _, _, _, _, _, _, _, _, _, _, _, _, _, _, hsz', rfl, (keepBelow hB hb8), (gx f0), (gx f1), (gx f2), (gx f3), (gx f4), (gx f5), (gx f6), (fun _ => rfl), (gx f8), (fun _ => rfl), (gx f10), (gx f11), (gx f12), (gx f13), (gx f14), (gx f15), (gx f16), (fun _ => rfl), (fun _ => rfl), (gx f19), (gx f20), (gx f21), (gx f22), (gx f24), (gx rb), (fun h h' => (b0.out (gd h) (gd h')).below hb8), (fun h => (b1.out (gd h)).below hb8)⟩
       ·simp at hop
        subst hop
        refine wpOp_of_list (i := 19) rfl ?_
        have e79 := f18.out (hall ⟨18, .data⟩ (by simp) rfl)
        subst e79
        go_wp2
        show I _ _ _
        rw [HIH.out]
        exact ⟨β, _, _, _, _, _, _, _, _, _, _, _, _, _, _, _, _, _, _, _, _, _, _, _, _, hsz', rfl, (hB), (gx f0), (gx f1), (gx f2), (gx f3), (gx f4), (gx f5), (gx f6), (gx f7), (gx f8), (gx f9), (gx f10), (gx f11), (gx f12), (gx f13), (gx f14), (gx f15), (gx f16), (gx f17), (fun _ => rfl), (fun _ => rfl), (gx f20), (gx f21), (gx f22), (gx f24), (gx rb), (fun h h' => b0.out (gd h) (gd h')), (gx b1)⟩
       ·simp at hop
        subst hop
        refine wpOp_of_list (i := 20) rfl ?_
        have e60 := f19.out (hall ⟨19, .data⟩ (by simp) rfl)
        subst e60
        go_wp2
        show I _ _ _
        rw [HIH.out]
        exact ⟨β, _, _, _, _, _, _, _, _, _, _, _, _, _, _, _, _, _, _, _, _, _, _, _, _, hsz', rfl, (hB), (gx f0), (gx f1), (gx f2), (gx f3), (gx f4), (gx f5), (gx f6), (gx f7), (gx f8), (gx f9), (gx f10), (gx f11), (gx f12), (gx f13), (gx f14), (gx f15), (gx f16), (gx f17), (gx f18), (fun _ => rfl), (fun _ => rfl), (gx f21), (gx f22), (gx f24), (gx rb), (fun h h' => b0.out (gd h) (gd h')), (gx b1)⟩
       ·simp at hop
        subst hop
        refine wpOp_of_list (i := 21) rfl ?_
        have e60 := f19.out (hall ⟨19, .data⟩ (by simp) rfl)
        subst e60
        go_wp2
        show I _ _ _
        rw [HIH.out]
        exact ⟨β, _, _, _, _, _, _, _, _, _, _, _, _, _, _, _, _, _, _, _, _, _, _, _, _, hsz', rfl, (hB), (gx f0), (gx f1), (gx f2), (gx f3), (gx f4), (gx f5), (gx f6), (gx f7), (gx f8), (gx f9), (gx f10), (gx f11), (gx f12), (gx f13), (gx f14), (gx f15), (gx f16), (gx f17), (gx f18), (fun _ => rfl), (gx f20), (fun _ => rfl), (gx f22), (gx f24), (gx rb), (fun h h' => b0.out (gd h) (gd h')), (gx b1)⟩
       ·simp at hop
        subst hop
        refine wpOp_of_list (i := 22) rfl ?_
        have y22 := not_listed hj
        have y23 := hcl.off (i := 22) (j := 23) rfl y22 ⟨⟨22, .data⟩, by simp, rfl, rfl⟩
        have x22 := Lib.hid y22
        clear y22
        have x23 := Lib.hid y23
        clear y23
        have hb8 : Below w9.heap.size w9 (w9.alloc (.cells #[.int .i64 0, .int .i64 0] 46)) := (Below.refl _ _).alloc (Nat.le_refl _) _
        have hs8 := hB.size
        go_wp2
        show I _ _ _
        rw [HIH.out]
        exact ⟨w9.heap.size, _, _, _, _, _, _, _, _, _, _, _, _, _, _, _, _, _, _, _, _, _, _, _, _, hsz', rfl, (keepBelow hB hb8), (gx f0), (gx f1), (gx f2), (gx f3), (gx f4), (gx f5), (gx f6), (gx f7), (gx f8), (gx f9), (gx f10), (gx f11), (gx f12), (gx f13), (gx f14), (gx f15), (gx f16), (gx f17), (gx f18), (gx f19), (gx f20), (gx f21), (fun _ => rfl), (gx f24), (fun _ => hs8), (fun _ _ => boxS_new w9), (fun h => absurd (gd h) (by rw [x23.out]; exact Bool.false_ne_true))⟩
       ·simp at hop
        subst hop
        refine wpOp_of_list (i := 23) rfl ?_
        have e11 := f22.out (hall ⟨22, .data⟩ (by simp) rfl)
        subst e11
        have e80 := f20.out (hall ⟨20, .data⟩ (by simp) rfl)
        subst e80
        have y23 := not_listed hj
        have hl22 := hall ⟨22, .data⟩ (by simp) rfl
        have hbx := b0.out hl22 y23
        have hbb := rb.out hl22
        have hbx2 := puS_at (.int .i64 ox) (.int .i64 oy) hbx
        have hb9 := puS_below (.int .i64 ox) (.int .i64 oy) hB hbb
        have hbx3 : BoxS (puS w9 β (.int .i64 ox) (.int .i64 oy)) β ox oy := puS_box hbx
        obtain ⟨z0, z1, z2, z3⟩ := hbx
        clear y23 hl22
        go_wp2
        show I _ _ _
        rw [HIH.out]
        exact ⟨β, _, _, _, _, _, _, _, _, _, _, _, _, _, _, _, _, _, _, _, _, _, _, _, _, hsz', rfl, (hb9), (gx f0), (gx f1), (gx f2), (gx f3), (gx f4), (gx f5), (gx f6), (gx f7), (gx f8), (gx f9), (gx f10), (gx f11), (gx f12), (gx f13), (gx f14), (gx f15), (gx f16), (gx f17), (gx f18), (gx f19), (fun _ => rfl), (gx f21), (fun _ => rfl), (gx f24), (gx rb), (fun _ h => by rw [getD_self (by omega)] at h; cases h), (fun _ => hbx3)⟩
       ·simp at hop
        subst hop
        refine wpOp_of_list (i := 24) rfl ?_
        have e81 := f21.out (hall ⟨21, .data⟩ (by simp) rfl)
        subst e81
        go_wp2
        show I _ _ _
        rw [HIH.out]
        exact ⟨β, _, _, _, _, _, _, _, _, _, _, _, _, _, _, _, _, _, _, _, _, _, _, _, _, hsz', rfl, (hB), (gx f0), (gx f1), (gx f2), (gx f3), (gx f4), (gx f5), (gx f6), (gx f7), (gx f8), (gx f9), (gx f10), (gx f11), (gx f12), (gx f13), (gx f14), (gx f15), (gx f16), (gx f17), (gx f18), (gx f19), (gx f20), (fun _ => rfl), (gx f22), (fun _ => rfl), (gx rb), (fun h h' => b0.out (gd h) (gd h')), (gx b1)⟩
     case refine_1 =>
      intro ls a9 w9 i' hI hcl hi'
      rw [HIH.out] at hI
      obtain ⟨u50, u51, u52, u53, u54, u55, u56, u57, u58, u59, u10, hsz, rfl, hB, f0, f1, f2, f3, f4, f5, f6, f7, f8, f9, f10, wa, wb, wc⟩ := hI
      obtain ⟨hj, op, hop, hall⟩ := mem_ready.1 hi'
      have hlt' := (Array.getElem?_eq_some_iff.1 hop).1
      have hlt' : i' < 12 := hlt'
      have hsz' : (ls.setIfInBounds i' true).size = 12 := by rw [Array.size_setIfInBounds]; exact hsz
      rcases (show i' = 0 ∨ i' = 1 ∨ i' = 2 ∨ i' = 3 ∨ i' = 4 ∨ i' = 5 ∨ i' = 6 ∨ i' = 7 ∨ i' = 8 ∨ i' = 9 ∨ i' = 10 ∨ i' = 11 by omega) with rfl | rfl | rfl | rfl | rfl | rfl | rfl | rfl | rfl | rfl | rfl | rfl
      ·simp at hop
       subst hop
       refine wpOp_of_list (i := 0) rfl ?_
       go_wp2
       show I _ _ _
       rw [HIH.out]
       exact ⟨_, _, _, _, _, _, _, _, _, _, _, hsz', rfl, (hB), (fun _ => rfl), (gx f1), (gx f2), (gx f3), (gx f4), (gx f5), (gx f6), (gx f7), (gx f8), (gx f9), (gx f10), (fun h => wa.out (gd h)), (fun h h' => wb.out (gd h) (gd h')), (fun h => wc.out (gd h))⟩
      ·simp at hop
       subst hop
       refine wpOp_of_list (i := 1) rfl ?_
       have e50 := f0.out (hall ⟨0, .data⟩ (by simp) rfl)
       subst e50
       go_wp2
       show I _ _ _
       rw [HIH.out]
       exact ⟨_, _, _, _, _, _, _, _, _, _, _, hsz', rfl, (hB), (fun _ => rfl), (fun _ => rfl), (gx f2), (gx f3), (gx f4), (gx f5), (gx f6), (gx f7), (gx f8), (gx f9), (gx f10), (fun h => wa.out (gd h)), (fun h h' => wb.out (gd h) (gd h')), (fun h => wc.out (gd h))⟩
      ·simp at hop
       subst hop
       refine wpOp_of_list (i := 2) rfl ?_
       have e51 := f1.out (hall ⟨1, .data⟩ (by simp) rfl)
       subst e51
       go_wp2
       show I _ _ _
       rw [HIH.out]
       exact ⟨_, _, _, _, _, _, _, _, _, _, _, hsz', rfl, (hB), (gx f0), (fun _ => rfl), (fun _ => rfl), (gx f3), (gx f4), (gx f5), (gx f6), (gx f7), (gx f8), (gx f9), (gx f10), (fun h => wa.out (gd h)), (fun h h' => wb.out (gd h) (gd h')), (fun h => wc.out (gd h))⟩
      ·simp at hop
       subst hop
       refine wpOp_of_list (i := 3) rfl ?_
       have e52 := f2.out (hall ⟨2, .data⟩ (by simp) rfl)
       subst e52
       have c0 := keepCell hB HX0.out
       rw [HVL.out] at c0
       go_wp2
       show I _ _ _
       rw [HIH.out]
       exact ⟨_, _, _, _, _, _, _, _, _, _, _, hsz', rfl, (hB), (gx f0), (gx f1), (fun _ => rfl), (fun _ => rfl), (gx f4), (gx f5), (gx f6), (gx f7), (gx f8), (gx f9), (gx f10), (fun h => wa.out (gd h)), (fun h h' => wb.out (gd h) (gd h')), (fun h => wc.out (gd h))⟩
      ·simp at hop
       subst hop
       refine wpOp_of_list (i := 4) rfl ?_
       go_wp2
       show I _ _ _
       rw [HIH.out]
       exact ⟨_, _, _, _, _, _, _, _, _, _, _, hsz', rfl, (hB), (gx f0), (gx f1), (gx f2), (gx f3), (fun _ => rfl), (gx f5), (gx f6), (gx f7), (gx f8), (gx f9), (gx f10), (fun h => wa.out (gd h)), (fun h h' => wb.out (gd h) (gd h')), (fun h => wc.out (gd h))⟩
      ·simp at hop
       subst hop
       refine wpOp_of_list (i := 5) rfl ?_
       go_wp2
       show I _ _ _
       rw [HIH.out]
       exact ⟨_, _, _, _, _, _, _, _, _, _, _, hsz', rfl, (hB), (gx f0), (gx f1), (gx f2), (gx f3), (gx f4), (fun _ => rfl), (gx f6), (gx f7), (gx f8), (gx f9), (gx f10), (fun h => wa.out (gd h)), (fun h h' => wb.out (gd h) (gd h')), (fun h => wc.out (gd h))⟩
      ·simp at hop
       subst hop
       refine wpOp_of_list (i := 6) rfl ?_
       have e54 := f4.out (hall ⟨4, .data⟩ (by simp) rfl)
       subst e54
       have e55 := f5.out (hall ⟨5, .data⟩ (by simp) rfl)
       subst e55
       have hl := HLT8.out
       have hl2 := HIL.out
       go_wp2
       show I _ _ _
       rw [HIH.out]
       exact ⟨_, _, _, _, _, _, _, _, _, _, _, hsz', rfl, (hB), (gx f0), (gx f1), (gx f2), (gx f3), (fun _ => rfl), (fun _ => rfl), (fun _ => rfl), (gx f7), (gx f8), (gx f9), (gx f10), (fun h => wa.out (gd h)), (fun h h' => wb.out (gd h) (gd h')), (fun h => wc.out (gd h))⟩
      ·simp at hop
       subst hop
       refine wpOp_of_list (i := 7) rfl ?_
       have e56 := f6.out (hall ⟨6, .data⟩ (by simp) rfl)
       subst e56
       have c0 := keepCell hB HVX.out
       go_wp2
       show I _ _ _
       rw [HIH.out]
       exact ⟨_, _, _, _, _, _, _, _, _, _, _, hsz', rfl, (hB), (gx f0), (gx f1), (gx f2), (gx f3), (gx f4), (gx f5), (fun _ => rfl), (fun _ => rfl), (gx f8), (gx f9), (gx f10), (fun h => wa.out (gd h)), (fun h h' => wb.out (gd h) (gd h')), (fun h => wc.out (gd h))⟩
      ·simp at hop
       subst hop
       refine wpOp_of_list (i := 8) rfl ?_
       have e53 := f3.out (hall ⟨3, .data⟩ (by simp) rfl)
       subst e53
       have e57 := f7.out (hall ⟨7, .data⟩ (by simp) rfl)
       subst e57
       have hl := HLT8.out
       have hl2 := HIL.out
       go_wp2
       show I _ _ _
       rw [HIH.out]
       exact ⟨_, _, _, _, _, _, _, _, _, _, _, hsz', rfl, (hB), (gx f0), (gx f1), (gx f2), (fun _ => rfl), (gx f4), (gx f5), (gx f6), (fun _ => rfl), (fun _ => rfl), (gx f9), (gx f10), (fun h => wa.out (gd h)), (fun h h' => wb.out (gd h) (gd h')), (fun h => wc.out (gd h))⟩
      ·simp at hop
       subst hop
       refine wpOp_of_list (i := 9) rfl ?_
       have e58 := f8.out (hall ⟨8, .data⟩ (by simp) rfl)
       subst e58
       obtain ⟨q0, q1, q2, q3, q4⟩ := HT.out
       have c0 := keepCell hB q0
       have c1 := keepCell hB q1
       have c2 := keepCell hB q2
       have c3 := keepCell hB q3
       have c4 := keepCell hB q4
       go_wp2
       show I _ _ _
       rw [HIH.out]
       exact ⟨_, _, _, _, _, _, _, _, _, _, _, hsz', rfl, (hB), (gx f0), (gx f1), (gx f2), (gx f3), (gx f4), (gx f5), (gx f6), (gx f7), (fun _ => rfl), (fun _ => rfl), (gx f10), (fun h => wa.out (gd h)), (fun h h' => wb.out (gd h) (gd h')), (fun h => wc.out (gd h))⟩
      ·simp at hop
       subst hop
       refine wpOp_of_list (i := 10) rfl ?_
       have y10 := not_listed hj
       have y11 := hcl.off (i := 10) (j := 11) rfl y10 ⟨⟨10, .data⟩, by simp, rfl, rfl⟩
       have x10 := Lib.hid y10
       clear y10
       have x11 := Lib.hid y11
       clear y11
       have hw := wa.out x10.out
       subst hw
       have hB8 : Below X.heap.size X (X.drew.alloc (.cells #[.string ByteArray.empty, .int .i64 0, .int .i64 0, .slice none 0 0, .int .i64 0] 44)) := (Below.refl _ X).drew.alloc (Nat.le_refl _) _
       go_wp2
       show I _ _ _
       rw [HIH.out]
       exact ⟨_, _, _, _, _, _, _, _, _, _, _, hsz', rfl, (hB8), (gx f0), (gx f1), (gx f2), (gx f3), (gx f4), (gx f5), (gx f6), (gx f7), (gx f8), (gx f9), (fun _ => rfl), (fun h => by rw [getD_self (by omega)] at h; cases h), (fun _ _ => rfl), (fun h => absurd (gd h) (by rw [x11.out]; exact Bool.false_ne_true))⟩
      ·simp at hop
       subst hop
       refine wpOp_of_list (i := 11) rfl ?_
       have e10 := f10.out (hall ⟨10, .data⟩ (by simp) rfl)
       subst e10
       have e59 := f9.out (hall ⟨9, .data⟩ (by simp) rfl)
       subst e59
       have y11 := not_listed hj
       have hw := wb.out (hall ⟨10, .data⟩ (by simp) rfl) y11
       subst hw
       have hl10 := hall ⟨10, .data⟩ (by simp) rfl
       clear y11
       have hB8 : Below X.heap.size X (X.drew.alloc (.cells #[.string x.1.nm, .int .i64 x.1.wk, .int .i64 (ρ : Nat), .slice ax x.1.af.length nx, .int .i64 x.1.du] 44)) := (Below.refl _ X).drew.alloc (Nat.le_refl _) _
       go_wp2
       show I _ _ _
       rw [HIH.out]
       exact ⟨_, _, _, _, _, _, _, _, _, _, _, hsz', rfl, (hB8), (gx f0), (gx f1), (gx f2), (gx f3), (gx f4), (gx f5), (gx f6), (gx f7), (gx f8), (fun _ => rfl), (fun _ => rfl), (fun h => absurd (gd h) (by rw [hl10]; decide)), (fun _ h => by rw [getD_self (by omega)] at h; cases h), (fun _ => rfl)⟩
   ·have hml : m = Q.length := by omega
    subst hml
    have hro : Rs.no lm = r := by rw [← HTm.out, List.drop_length]; rfl
    subst hro
    have hK' := Lib.hid (HK1.out.trans HKm.out)
    go_wp2
    go_ret2
    exact ⟨_, _, rfl, hK'.out, rfl, rfl, HLm.out, HSm.out⟩
end Go.Proofs.YtlbjfbpejomkmaaGreat
