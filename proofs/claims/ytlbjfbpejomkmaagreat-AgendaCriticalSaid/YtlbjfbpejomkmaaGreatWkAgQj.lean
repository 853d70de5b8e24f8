import Derived.Test.YtlbjfbpejomkmaaGreatWkAgQh
import Derived.Test.YtlbjfbpejomkmaaGreatWkAgQf
import Derived.Test.YtlbjfbpejomkmaaGreatWkAgQb
import Derived.Test.YtlbjfbpejomkmaaGreatWkTn
import Derived.Test.YtlbjfbpejomkmaaGreatWkAgQi
/- Agenda: holds. -/
namespace Go.Proofs.YtlbjfbpejomkmaaGreat
open Go.RowKit Wk

def clB (l : List Tk) (b : List Sp) (i k : Nat) : Bool := (tkAt l k).rs == (tkAt l i).rs && (decide ((spAt b k).1 < (spAt b i).2) && decide ((spAt b i).1 < (spAt b k).2))
def h0B (l : List Tk) (res : List St) (b : List Sp) (i : Nat) : Bool := hB l res (-4398046511104) b i
theorem h0_no {l : List Tk} {res : List St} {b : List Sp} {i : Nat} (hi : i < l.length) (h : h0B l res b i = false) : holdsM l res (-4398046511104) b = false := by
 unfold holdsM
 have : (List.range l.length).all (hB l res (-4398046511104) b) = false := List.all_eq_false.2 ⟨i, List.mem_range.2 hi, by unfold h0B at h; rw [h]; exact Bool.false_ne_true⟩
 rw [this, Bool.and_false]
theorem h0_yes {l : List Tk} {res : List St} {b : List Sp} (hl : b.length = l.length) (h : ∀ i, i < l.length → h0B l res b i = true) : holdsM l res (-4398046511104) b = true := by
 unfold holdsM
 rw [decide_eq_true hl]
 exact List.all_eq_true.2 fun i hi => h i (List.mem_range.1 hi)
theorem h0_iff {l : List Tk} {res : List St} {b : List Sp} {i : Nat} : h0B l res b i = true ↔
  ivB (spAt b i) = true ∧ hasS (setOf l res i) (spAt b i).1 = true ∧ hasS (setOf l res i) ((spAt b i).2 - 1) = true ∧ potS (setOf l res i) (spAt b i).2 - potS (setOf l res i) (spAt b i).1 = (tkAt l i).wk ∧
  ((tkAt l i).af.any fun j => decide ((spAt b i).1 < (spAt b j.toNat).2)) = false ∧ ∀ k, k < i → clB l b i k = false := by
 unfold h0B
 rw [hB_iff]
 constructor
 ·rintro ⟨h1, _, h3, h4, h5, h6, h7⟩
  refine ⟨h1, h3, h4, h5, ?_, fun k hk => ?_⟩
  ·rw [List.any_eq_false]
   intro j hj
   have := h6 j hj
   simp
   omega
  ·unfold clB
   cases hr : ((tkAt l k).rs == (tkAt l i).rs) with
   | false => rfl
   | true =>
    have := h7 k hk (by simpa using hr)
    rcases this with h | h
    ·rw [decide_eq_false (p := (spAt b k).1 < (spAt b i).2) (by omega)]; rfl
    ·rw [decide_eq_false (p := (spAt b i).1 < (spAt b k).2) (by omega)]; simp
 ·rintro ⟨h1, h3, h4, h5, h6, h7⟩
  refine ⟨h1, ((ivB_iff _).1 h1).1, h3, h4, h5, fun j hj => ?_, fun k hk hr => ?_⟩
  ·have := List.any_eq_false.1 h6 j hj
   simp at this
   omega
  ·have := h7 k hk
   unfold clB at this
   rw [hr] at this
   simp at this
   omega
theorem BoxS.far {W : World} {b p o : Nat} {x y : Int} {v : Value} (h : BoxS W b x y) (hn : p ≠ b) : BoxS (W.setCell ⟨p, o, none⟩ v) b x y :=
 ⟨(cell_ne (Or.inl hn)).trans h.1, (cell_ne (Or.inl hn)).trans h.2.1, (frz_set ..).trans h.2.2.1, (frz_set ..).trans h.2.2.2⟩
theorem Set7.farX {W : World} {b p o : Nat} {u0 u1 u2 u3 u4 u5 u6 v : Value} (h : Set7 W b u0 u1 u2 u3 u4 u5 u6) (hn : p ≠ b) : Set7 (W.setCell ⟨p, o, none⟩ v) b u0 u1 u2 u3 u4 u5 u6 := by
 obtain ⟨⟨h0, h1, h2, h3, h4, h5, h6⟩, k0, k1, k2, k3, k4, k5, k6⟩ := h
 exact ⟨⟨(cell_ne (Or.inl hn)).trans h0, (cell_ne (Or.inl hn)).trans h1, (cell_ne (Or.inl hn)).trans h2, (cell_ne (Or.inl hn)).trans h3, (cell_ne (Or.inl hn)).trans h4, (cell_ne (Or.inl hn)).trans h5, (cell_ne (Or.inl hn)).trans h6⟩, (frz_set ..).trans k0, (frz_set ..).trans k1, (frz_set ..).trans k2, (frz_set ..).trans k3, (frz_set ..).trans k4, (frz_set ..).trans k5, (frz_set ..).trans k6⟩
theorem box_far7 {W : World} {b p : Nat} {x y : Int} {u0 u1 u2 u3 u4 u5 u6 : Value} (h : BoxS W b x y) (hn : p ≠ b) : BoxS (put7 W p u0 u1 u2 u3 u4 u5 u6) b x y :=
 ((((((h.far hn).far hn).far hn).far hn).far hn).far hn).far hn
theorem set7_puts {W : World} {b : Nat} {x0 x1 x2 x3 x4 x5 x6 : Value} (h : Set7 W b x0 x1 x2 x3 x4 x5 x6) (u0 u1 u2 u3 u4 u5 u6 : Value) : Set7 (put7 W b u0 u1 u2 u3 u4 u5 u6) b u0 u1 u2 u3 u4 u5 u6 := by
 obtain ⟨⟨h0, h1, h2, h3, h4, h5, h6⟩, k0, k1, k2, k3, k4, k5, k6⟩ := h
 refine ⟨put7_at u0 u1 u2 u3 u4 u5 u6 h0 h1 h2 h3 h4 h5 h6, ?_, ?_, ?_, ?_, ?_, ?_, ?_⟩ <;> simp [put7, go_sem, k0, k1, k2, k3, k4, k5, k6]
theorem set7_fresh (X : World) (u0 u1 u2 u3 u4 u5 u6 : Value) : Set7 (X.alloc (.cells #[u0, u1, u2, u3, u4, u5, u6] 54)) X.heap.size u0 u1 u2 u3 u4 u5 u6 := by
 refine ⟨⟨?_, ?_, ?_, ?_, ?_, ?_, ?_⟩, ?_, ?_, ?_, ?_, ?_, ?_, ?_⟩ <;> simp [go_sem]
def CapK (v : Value) : Prop := ∀ a n c, v = .slice a n c → n ≤ c
theorem h0_bad {l : List Tk} {res : List St} {b : List Sp} {i : Nat} (h : ¬ h0B l res b i = true) : h0B l res b i = false := by simpa using h

set_option maxRecDepth 100000 in
set_option maxHeartbeats 16000000 in
theorem holds_any (vl vR va : Value) (L : List Kv) (R : List Sw) (b : List Sp) (w : World) (hL : RdK w vl L) (hR : RdR w vR R) (hb : RdS w va b) (hV : vldM (tks L) (sts R) = true) (hcap : CapK vl) :
  Calls Tryz.prog 53 #[vl, vR, va] w fun e w' => e = .returned (.bool (holdsM (tks L) (sts R) (-4398046511104) b)) ∧ Below w.heap.size w w' := by
 have HVP := Lib.hid (vld_parts hV)
 have HCAP := Lib.hid hcap
 have HVV := Lib.hid (vld_V hV)
 have HIV := Lib.hid (fun x y W => ivalid_any x y W)
 obtain ⟨r, hr⟩ : ∃ r, holdsM (tks L) (sts R) (-4398046511104) b = r := ⟨_, rfl⟩
 rw [hr]
 have HRE := Lib.hid hr
 have HL := Lib.hid hL
 have HR := Lib.hid hR
 have HS := Lib.hid hb
 obtain ⟨al, cl, rfl⟩ := hL.form
 obtain ⟨aR, cR, rfl⟩ := hR.form
 obtain ⟨aa, ca, rfl⟩ := hb.form
 obtain ⟨O, hO⟩ : ∃ O, (Obj.cells #[.slice aa b.length ca] 26) = O := ⟨_, rfl⟩
 have HP0 : Hid ((w.alloc O).cell? ⟨w.heap.size, 0, none⟩ = some (.slice aa b.length ca)) := by unfold Hid; rw [← hO]; simp [go_sem]
 have HB1 : Hid (Below w.heap.size w (w.alloc O)) := (Below.refl _ _).alloc (Nat.le_refl _) _
 have HO := Lib.hid hO
 have HCL : Hid (L.length ≤ cl) := HCAP.out _ _ _ rfl
 clear hr hL hR hb hV hO hcap HCAP
 go_enter Tryz.func53, Tryz.ntmps53
 go_upto_region 1 with fail
 rw [HO.out]
 clear HO
 obtain ⟨pa, hpa⟩ : ∃ p, w.heap.size = p := ⟨_, rfl⟩
 rw [hpa] at HP0 ⊢
 generalize w.alloc O = W1 at *
 have HPA := Lib.hid hpa
 clear hpa
 by_cases hne : b.length = L.length
 ·have g1 : ((b.length : Int) != (L.length : Int)) = false := by simp; omega
  have HNE := Lib.hid hne
  clear hne
  have p0 := HP0.out
  go_wp2_with fail
  go_loopw [22] (fun u wr => ∃ k : Nat, u = .int .i64 k ∧ k ≤ L.length ∧ Hid (∀ i, i < k → h0B (tks L) (sts R) b i = true) ∧ Hid (Below W1.heap.size W1 wr)) (fun u _ => L.length - (intOf u).toNat)
  case atStart => exact ⟨0, rfl, Nat.zero_le _, fun i hi => by omega, Below.refl _ _⟩
  case round =>
   obtain ⟨k, rfl, hk, HZ, HBr⟩ := hrel
   by_cases hlt : k < L.length
   ·have HLr := Lib.hid (HL.out.below HB1.out)
    obtain ⟨al', cl', ea, hl24, hc⟩ := (HLr.out.below HBr.out)
    cases ea
    obtain ⟨hj, bl, ol, rfl, q0, q1, q2, q3, q4⟩ := hc k hlt
    obtain ⟨x, hx⟩ : ∃ x, L.getD k kv0 = x := ⟨_, rfl⟩
    rw [hx] at hj q0 q1 q2 q3 q4
    obtain ⟨ax, nx, ex⟩ := hj.form
    rw [ex] at q3 hj
    have HTI : Hid (tkAt (tks L) k = x.1) := by unfold Hid; rw [tks_at, hx]
    obtain ⟨ρ, hρ⟩ : ∃ ρ : Nat, reOf (tks L) k = ρ := ⟨_, rfl⟩
    have hrs := HVV.out.rs k (by rw [tks_length]; exact hlt)
    have hρ1 : x.1.rs = (ρ : Int) := by
     rw [← hρ]
     unfold reOf
     rw [HTI.out]
     rw [HTI.out] at hrs
     omega
    have hρ2 : ρ < R.length := by rw [← hρ]; have := hrs.2; rwa [sts_length] at this
    have HRO := Lib.hid (And.intro hρ (And.intro hρ1 hρ2))
    have HJ := Lib.hid hj
    rw [hρ1] at q2
    obtain ⟨O2, hO2⟩ : ∃ O2, (Obj.cells #[.string x.1.nm, .int .i64 x.1.wk, .int .i64 (ρ : Nat), .slice ax x.1.af.length nx, .int .i64 x.1.du] 44) = O2 := ⟨_, rfl⟩
    have HT5 : Hid ((wr.alloc O2).cell? ⟨wr.heap.size, 1, none⟩ = some (.int .i64 x.1.wk) ∧ (wr.alloc O2).cell? ⟨wr.heap.size, 2, none⟩ = some (.int .i64 (ρ : Nat)) ∧ (wr.alloc O2).cell? ⟨wr.heap.size, 3, none⟩ = some (.slice ax x.1.af.length nx)) := by
     rw [← hO2]
     refine ⟨?_, ?_, ?_⟩ <;> simp [go_sem]
    have hbY : Below wr.heap.size wr (wr.alloc O2) := (Below.refl _ _).alloc (Nat.le_refl _) _
    have HLT := Lib.hid hlt
    have HO2 := Lib.hid hO2
    clear hc hx hj ex hρ hρ1 hρ2 hrs hO2
    go_upto_region 6 with fail
    rw [HO2.out]
    clear HO2 q0 q1 q2 q3 q4
    obtain ⟨tb, htb⟩ : ∃ tb, wr.heap.size = tb := ⟨_, rfl⟩
    rw [htb] at HT5 ⊢
    generalize wr.alloc O2 = Y at *
    have HBY := Lib.hid (keepBelow HBr.out hbY)
    have HTB : Hid (tb < Y.heap.size) := World.block_lt_of_cell? Y ⟨tb, 1, none⟩ HT5.out.1
    have HJY := Lib.hid (HJ.out.below hbY)
    have HP0Y := Lib.hid (keepCell HBY.out HP0.out)
    have HRY := Lib.hid ((HR.out.below HB1.out).below HBY.out)
    have HSY := Lib.hid (keepRd HBY.out (keepRd HB1.out HS.out))
    have HLY := Lib.hid (HLr.out.below HBY.out)
    clear hbY htb p0
    obtain ⟨aR', cR', evR, _, hcR⟩ := HRY.out
    cases evR
    obtain ⟨hr7, br, orr, rfl, p0, p1, p2, p3, p4, p5, p6⟩ := hcR ρ HRO.out.2.2
    obtain ⟨z, hz⟩ : ∃ z, R.getD ρ sw0 = z := ⟨_, rfl⟩
    rw [hz] at hr7 p0 p1 p2 p3 p4 p5 p6
    obtain ⟨b1, m1, k1⟩ := hr7.1.form
    obtain ⟨b2, m2, k2⟩ := hr7.2.1.form
    obtain ⟨b3, m3, k3⟩ := hr7.2.2.form
    rw [k1] at p1
    rw [k2] at p3
    rw [k3] at p6
    rw [k1, k2, k3] at hr7
    have HC7 := Lib.hid (And.intro p0 (And.intro p1 (And.intro p2 (And.intro p3 (And.intro p4 (And.intro p5 p6))))))
    have HR7 := Lib.hid hr7
    have HSX : Hid (setOf (tks L) (sts R) k = z.1) := by unfold Hid setOf; rw [HRO.out.1, sts_at, hz]
    have HVZ : Hid (VB z.1 = true) := by have := HVP.out.1 ρ HRO.out.2.2; rwa [hz] at this
    obtain ⟨as', cs', evs, _, hcs⟩ := HSY.out
    cases evs
    obtain ⟨ga, oa, rfl, sx, sy⟩ := hcs k (by rw [HNE.out]; exact hlt)
    obtain ⟨tx, htx⟩ : ∃ t, (b.getD k (0, 0)).1 = t := ⟨_, rfl⟩
    obtain ⟨ty, hty⟩ : ∃ t, (b.getD k (0, 0)).2 = t := ⟨_, rfl⟩
    rw [htx] at sx
    rw [hty] at sy
    have HSP : Hid (spAt b k = (tx, ty)) := by unfold Hid spAt; rw [← htx, ← hty]
    have HSC := Lib.hid (And.intro sx sy)
    have HCS := Lib.hid hcs
    clear hr7 p0 p1 p2 p3 p4 p5 p6 hz k1 k2 k3 hcR hcs sx sy htx hty
    refine wp_region_any (by kernel_rfl) ?_
    change wpAny _ _ _ _ _ _ _ Y.drew
    obtain ⟨I, HIe⟩ : ∃ I : Array Bool → Act → World → Prop, I = fun (ls : Array Bool) (a9 : Act) (w9 : World) => ∃ (β1 : Nat) (β2 : Nat) (u27 u28 u29 u30 u31 u32 u33 u34 u35 u9 u10 : Value), ls.size = 13 ∧ a9 = ⟨#[(Value.slice (some { block := bl, off := ol }) L.length cl), (Value.slice (some { block := br, off := orr }) R.length cR), (Value.slice (some { block := ga, off := oa }) b.length ca), undef, undef, (Value.pointer (some { block := pa, off := 0 })), (u6), (Value.int IntKind.i64 ↑k), (Value.pointer (some { block := tb, off := 0 })), u9, u10, (u11), (u12), (u13), (u14), (Value.slice (some { block := ga, off := oa }) b.length ca), (Value.int IntKind.i64 ↑b.length), (Value.slice (some { block := bl, off := ol }) L.length cl), (Value.int IntKind.i64 ↑L.length), (Value.bool false), (Value.slice (some { block := bl, off := ol }) L.length cl), (Value.int IntKind.i64 ↑L.length), (Value.int IntKind.i64 ↑k), (Value.bool true), (Value.int IntKind.i64 ↑k), (Value.pointer (some { block := bl, off := ol + k * 5 })), (Value.agg #[Value.string x.fst.nm, Value.int IntKind.i64 x.fst.wk, Value.int IntKind.i64 ↑ρ, Value.slice ax x.fst.af.length nx, Value.int IntKind.i64 x.fst.du]), u27, u28, u29, u30, u31, u32, u33, u34, u35, (u36), (u37), (u38), (u39), (u40), (u41), (u42), (u43), (u44), (u45), (u46), (u47), (u48), (u49), (u50), (u51), (u52), (u53), (u54), (u55), (u56), (u57), (u58), (u59), (u60), (u61), (u62), (u63), (u64), (u65), (u66), (u67), (u68), (u69), (u70), (u71), (u72), (u73), (u74), (u75), (u76), (u77), (u78), (u79), (u80), (u81), (u82), (u83), (u84), (u85), (u86), (u87), (u88), (u89), (u90), (u91), (u92), (u93), (u94), (u95), (u96), (u97), (u98), (u99), (u100), (u101), (u102), (u103), (u104), (u105), (u106), (u107), (u108), (u109), (u110)], []⟩ ∧ Below Y.heap.size Y w9 ∧ Hid (ls.getD 0 false = true → u27 = .slice (some ⟨br, orr, none⟩) R.length cR) ∧ Hid (ls.getD 1 false = true → u28 = .pointer (some ⟨tb, 2, none⟩)) ∧ Hid (ls.getD 2 false = true → u29 = .int .i64 (ρ : Nat)) ∧ Hid (ls.getD 3 false = true → u30 = .pointer (some ⟨br, orr + ρ * 7, none⟩)) ∧ Hid (ls.getD 4 false = true → u31 = .agg #[.int .i64 z.1.lf.1, .slice b1 z.1.lf.2.length m1, .int .i64 z.1.rt.1, .slice b2 z.1.rt.2.length m2, .int .i64 z.1.fr, .int .i64 z.1.to, .slice b3 z.1.l.length m3]) ∧ Hid (ls.getD 5 false = true → u32 = .slice (some ⟨ga, oa, none⟩) b.length ca) ∧ Hid (ls.getD 6 false = true → u33 = .int .i64 (k : Nat)) ∧ Hid (ls.getD 7 false = true → u34 = .pointer (some ⟨ga, oa + k * 2, none⟩)) ∧ Hid (ls.getD 8 false = true → u35 = .agg #[.int .i64 tx, .int .i64 ty]) ∧ Hid (ls.getD 9 false = true → u9 = .pointer (some ⟨β1, 0, none⟩)) ∧ Hid (ls.getD 10 false = true → u10 = .pointer (some ⟨β2, 0, none⟩)) ∧ Hid (ls.getD 9 false = true → (Y.heap.size ≤ β1 ∧ β1 < w9.heap.size)) ∧ Hid (ls.getD 10 false = true → (Y.heap.size ≤ β2 ∧ β2 < w9.heap.size)) ∧ Hid (ls.getD 9 false = true → ls.getD 10 false = true → β1 ≠ β2) ∧ Hid (ls.getD 9 false = true → ls.getD 11 false = false → Set7 w9 β1 (.int .i64 0) (.slice none 0 0) (.int .i64 0) (.slice none 0 0) (.int .i64 0) (.int .i64 0) (.slice none 0 0)) ∧ Hid (ls.getD 11 false = true → Set7 w9 β1 (.int .i64 z.1.lf.1) (.slice b1 z.1.lf.2.length m1) (.int .i64 z.1.rt.1) (.slice b2 z.1.rt.2.length m2) (.int .i64 z.1.fr) (.int .i64 z.1.to) (.slice b3 z.1.l.length m3)) ∧ Hid (ls.getD 10 false = true → ls.getD 12 false = false → BoxS w9 β2 0 0) ∧ Hid (ls.getD 12 false = true → BoxS w9 β2 tx ty) := ⟨_, rfl⟩
    have HIH := Lib.hid HIe
    clear HIe
    refine wpAny_invC I ?_ ?_ _ _ _ _ ?_ ?_ ?_
    case refine_3 =>
     rw [HIH.out]
     exact ⟨0, 0, u27, u28, u29, u30, u31, u32, u33, u34, u35, u9, u10, rfl, rfl, (Below.refl _ Y).drew, (fun h => by cases h), (fun h => by cases h), (fun h => by cases h), (fun h => by cases h), (fun h => by cases h), (fun h => by cases h), (fun h => by cases h), (fun h => by cases h), (fun h => by cases h), (fun h => by cases h), (fun h => by cases h), (fun h => by cases h), (fun h => by cases h), (fun h => by cases h), (fun h => by cases h), (fun h => by cases h), (fun h => by cases h), (fun h => by cases h)⟩
    case refine_4 => intro j; exact getD_rep _ _
    case refine_5 => decide
    case refine_2 =>
     intro ls a9 w9 hI hr
     rw [HIH.out] at hI
     obtain ⟨β1, β2, u27, u28, u29, u30, u31, u32, u33, u34, u35, u9, u10, hsz, rfl, hB, f0, f1, f2, f3, f4, f5, f6, f7, f8, f9, f10, r9, r10, dd, a0, a1, c0, c1⟩ := hI
     have hall := all_listed_rk [0, 1, 2, 3, 4, 5, 6, 7, 8, 9, 10, 11, 12] hsz (by kernel_rfl) hr
     have e9 := f9.out (hall 9 (by decide))
     have e10 := f10.out (hall 10 (by decide))
     subst e9
     subst e10
     have HS7 := Lib.hid (a1.out (hall 11 (by decide)))
     have HBX := Lib.hid (c1.out (hall 12 (by decide)))
     have HNE2 := Lib.hid (dd.out (hall 9 (by decide)) (hall 10 (by decide)))
     have HBZ := Lib.hid hB
     clear hB r9 r10 dd a0 a1 c0 c1 f0 f1 f2 f3 f4 f5 f6 f7 f8 f9 f10 hall hr hsz
     generalize w9 = Z at *
     have HBYW := Lib.hid (keepBelow HB1.out HBY.out)
     have HTZ := Lib.hid (And.intro (keepCell HBZ.out HT5.out.1) (And.intro (keepCell HBZ.out HT5.out.2.1) (keepCell HBZ.out HT5.out.2.2)))
     have HS0 := HS7
     have HX0 := HBX
     have HB0 := HBZ
     obtain ⟨⟨A0, A1, A2, A3, A4, A5, A6⟩, -⟩ := HS0.out
     obtain ⟨X0, X1, -, -⟩ := HX0.out
     go_wp2_with fail
     refine (HIV.out tx ty _).mono ?_
     rintro e w2 ⟨rfl, hb2⟩
     have HS2 := Lib.hid (HS0.out.below hb2)
     have HX2 := Lib.hid (HX0.out.below hb2)
     have HB2 := Lib.hid (keepBelow HB0.out hb2)
     clear hb2 A0 A1 A2 A3 A4 A5 A6 X0 X1
     obtain ⟨⟨A0, A1, A2, A3, A4, A5, A6⟩, -⟩ := HS2.out
     obtain ⟨X0, X1, -, -⟩ := HX2.out
     obtain ⟨iv, hiv⟩ : ∃ v, ivB (tx, ty) = v := ⟨_, rfl⟩
     rw [hiv]
     have HIVV := Lib.hid hiv
     clear hiv
     cases iv with
     | false =>
      have hr : r = false := by rw [← HRE.out]; exact h0_no (by rw [tks_length]; exact HLT.out) (h0_bad fun h => by have h1 := (h0_iff.1 h).1; rw [HSP.out, HIVV.out] at h1; cases h1)
      subst hr
      go_wp2
      go_ret
      exact ⟨rfl, keepBelow HBYW.out HB2.out⟩
     | true =>
     obtain ⟨hv1, hv2, hv3⟩ := (ivB_iff (tx, ty)).1 HIVV.out
     have hv1 : -4398046511104 ≤ tx := hv1
     have hv2 : tx < ty := hv2
     have hv3 : ty ≤ 4398046511104 := hv3
     have HHA := Lib.hid (fun W h => thas_any z.1 (.slice b1 z.1.lf.2.length m1) (.slice b2 z.1.rt.2.length m2) (.slice b3 z.1.l.length m3) tx W h (by omega) (by omega))
     have HHB := Lib.hid (fun W h => thas_any z.1 (.slice b1 z.1.lf.2.length m1) (.slice b2 z.1.rt.2.length m2) (.slice b3 z.1.l.length m3) (ty - 1) W h (by omega) (by omega))
     have HME := Lib.hid (fun W h => wmeasure_any z.1 (.slice b1 z.1.lf.2.length m1) (.slice b2 z.1.rt.2.length m2) (.slice b3 z.1.l.length m3) tx ty W h)
     rw [HVZ.out, Bool.true_and] at HHA HHB
     rw [HVZ.out, MeaM_ok (okS_of_VB HVZ.out).good rfl ((lineB_iff tx).2 ⟨hv1, by omega⟩) ((lineB_iff ty).2 ⟨by omega, hv3⟩)] at HME
     obtain ⟨ha, hha⟩ : ∃ v, hasS z.1 tx = v := ⟨_, rfl⟩
     obtain ⟨hb0, hhb⟩ : ∃ v, hasS z.1 (ty - 1) = v := ⟨_, rfl⟩
     obtain ⟨pn, hpn⟩ : ∃ v, potS z.1 ty - potS z.1 tx = v := ⟨_, rfl⟩
     rw [hha] at HHA
     rw [hhb] at HHB
     rw [hpn] at HME
     have HHV := Lib.hid (And.intro hha (And.intro hhb hpn))
     have HRk := Lib.hid (fun (W9 : World) (hW : Below Y.heap.size Y W9) => keepSt hW HR7.out)
     clear hha hhb hpn
     go_wp2_with fail
     refine (HHA.out _ (HRk.out _ HB2.out)).mono ?_
     rintro e w3 ⟨rfl, hb3⟩
     have HS3 := Lib.hid (HS2.out.below hb3)
     have HX3 := Lib.hid (HX2.out.below hb3)
     have HB3 := Lib.hid (keepBelow HB2.out hb3)
     clear hb3 A0 A1 A2 A3 A4 A5 A6 X0 X1
     obtain ⟨⟨A0, A1, A2, A3, A4, A5, A6⟩, -⟩ := HS3.out
     obtain ⟨X0, X1, -, -⟩ := HX3.out
     cases ha with
     | false =>
      have hr : r = false := by rw [← HRE.out]; exact h0_no (by rw [tks_length]; exact HLT.out) (h0_bad fun h => by have h1 := (h0_iff.1 h).2.1; rw [HSP.out, HSX.out, HHV.out.1] at h1; cases h1)
      subst hr
      go_wp2
      go_ret
      exact ⟨rfl, keepBelow HBYW.out HB3.out⟩
     | true =>
     go_wp2_with fail
     refine (HHB.out _ (HRk.out _ HB3.out)).mono ?_
     rintro e w4 ⟨rfl, hb4⟩
     have HS4 := Lib.hid (HS3.out.below hb4)
     have HX4 := Lib.hid (HX3.out.below hb4)
     have HB4 := Lib.hid (keepBelow HB3.out hb4)
     clear hb4 A0 A1 A2 A3 A4 A5 A6 X0 X1
     obtain ⟨⟨A0, A1, A2, A3, A4, A5, A6⟩, -⟩ := HS4.out
     obtain ⟨X0, X1, -, -⟩ := HX4.out
     cases hb0 with
     | false =>
      have hr : r = false := by rw [← HRE.out]; exact h0_no (by rw [tks_length]; exact HLT.out) (h0_bad fun h => by have h1 := (h0_iff.1 h).2.2.1; rw [HSP.out, HSX.out, HHV.out.2.1] at h1; cases h1)
      subst hr
      go_wp2
      go_ret
      exact ⟨rfl, keepBelow HBYW.out HB4.out⟩
     | true =>
     go_wp2_with fail
     refine (HME.out _ (HRk.out _ HB4.out)).mono ?_
     rintro e w5 ⟨rfl, hb5⟩
     have HS5 := Lib.hid (HS4.out.below hb5)
     have HX5 := Lib.hid (HX4.out.below hb5)
     have HB5 := Lib.hid (keepBelow HB4.out hb5)
     clear hb5 A0 A1 A2 A3 A4 A5 A6 X0 X1
     obtain ⟨⟨A0, A1, A2, A3, A4, A5, A6⟩, -⟩ := HS5.out
     obtain ⟨X0, X1, -, -⟩ := HX5.out
     have t1 := keepCell HB5.out HT5.out.1
     have t3 := keepCell HB5.out HT5.out.2.2
     by_cases hpw : pn = x.1.wk
     ·have g3 : (pn != x.1.wk) = false := by simpa using hpw
      have HPW : Hid (potS z.1 ty - potS z.1 tx = x.1.wk) := by unfold Hid; rw [HHV.out.2.2]; exact hpw
      have HCF : Hid (Calls Tryz.prog 87 #[.slice ax x.1.af.length nx, .func (.func 88) #[] #[.pointer (some ⟨pa, 0, none⟩), .pointer (some ⟨β2, 0, none⟩)]] w5 fun e w' => e = .returned (.bool (x.1.af.any fun j => decide (tx < (spAt b j.toNat).2))) ∧ Below w5.heap.size w5 w') := by
       refine con_after pa β2 (fun j => decide (tx < (spAt b j.toNat).2)) _ x.1.af w5 (HJY.out.below HB5.out) (fun j hj W hW => ?_)
       have h1 := HVV.out.af k (by rw [tks_length]; exact HLT.out) j (by rw [HTI.out]; exact hj)
       have h2 : j.toNat < b.length := by have := HNE.out; have := HLT.out; omega
       obtain ⟨g', o', e', k0, k1⟩ := HCS.out j.toNat h2
       cases e'
       have h3 := after_any j.toNat pa β2 ga oa b.length ca (spAt b j.toNat).2 tx W h2 (keepCell hW (keepCell HB5.out HP0Y.out)) (keepCell hW (keepCell HB5.out k1)) (keepCell hW HX5.out.1)
       rw [show ((j.toNat : Nat) : Int) = j by omega] at h3
       exact h3
      obtain ⟨an, han⟩ : ∃ v, (x.1.af.any fun j => decide (tx < (spAt b j.toNat).2)) = v := ⟨_, rfl⟩
      rw [han] at HCF
      have HAN := Lib.hid han
      clear han hpw
      go_wp2_with fail
      refine (HCF.out).mono ?_
      rintro e w6 ⟨rfl, hb6⟩
      have HS6 := Lib.hid (HS5.out.below hb6)
      have HX6 := Lib.hid (HX5.out.below hb6)
      have HB6 := Lib.hid (keepBelow HB5.out hb6)
      clear hb6 A0 A1 A2 A3 A4 A5 A6 X0 X1
      obtain ⟨⟨A0, A1, A2, A3, A4, A5, A6⟩, -⟩ := HS6.out
      obtain ⟨X0, X1, -, -⟩ := HX6.out
      cases an with
      | true =>
       have hr : r = false := by rw [← HRE.out]; exact h0_no (by rw [tks_length]; exact HLT.out) (h0_bad fun h => by have h1 := (h0_iff.1 h).2.2.2.2.1; rw [HSP.out, HTI.out] at h1; rw [HAN.out] at h1; cases h1)
       subst hr
       go_wp2
       go_ret
       exact ⟨rfl, keepBelow HBYW.out HB6.out⟩
      | false =>
      have hcl := HCL.out
      have hkc : k ≤ cl := by omega
      have T2 := HT5.out.2.1
      clear t1 t3 A0 A1 A2 A3 A4 A5 A6 g3
      go_wp2_with fail
      generalize w6 = V at *
      go_loopw [79] (fun u wr' => ∃ j : Nat, u = .int .i64 j ∧ j ≤ k ∧ Hid (∀ q, q < j → clB (tks L) b k q = false) ∧ Hid (Below V.heap.size V wr')) (fun u _ => k - (intOf u).toNat)
      case atStart => exact ⟨0, rfl, Nat.zero_le _, fun q hq => by omega, Below.refl _ _⟩
      case round =>
       obtain ⟨j, rfl, hjk, HZJ, HBJ⟩ := hrel
       by_cases hjl : j < k
       ·have hjL : j < L.length := by omega
        obtain ⟨al2, cl2, ea2, _, hc2⟩ := ((HLY.out.below HB6.out).below HBJ.out)
        cases ea2
        obtain ⟨hj2, bl2, ol2, eb2, q0, q1, q2, q3, q4⟩ := hc2 j hjL
        cases eb2
        obtain ⟨y, hy⟩ : ∃ y, L.getD j kv0 = y := ⟨_, rfl⟩
        rw [hy] at hj2 q0 q1 q2 q3 q4
        obtain ⟨ay, ny, ey⟩ := hj2.form
        rw [ey] at q3
        have HTJ : Hid (tkAt (tks L) j = y.1) := by unfold Hid; rw [tks_at, hy]
        have hjb : j < b.length := by have := HNE.out; omega
        obtain ⟨g', o', e', k0, k1⟩ := HCS.out j hjb
        cases e'
        obtain ⟨ux, hux⟩ : ∃ t, (b.getD j (0, 0)).1 = t := ⟨_, rfl⟩
        obtain ⟨uy, huy⟩ : ∃ t, (b.getD j (0, 0)).2 = t := ⟨_, rfl⟩
        rw [hux] at k0
        rw [huy] at k1
        have HCB : Hid (clB (tks L) b k j = ((y.1.rs == (ρ : Int)) && (decide (ux < ty) && decide (tx < uy)))) := by
         unfold Hid clB
         rw [HTJ.out, HTI.out, HSP.out, HRO.out.2.1]
         unfold spAt
         rw [hux, huy]
        obtain ⟨O3, hO3⟩ : ∃ O3, (Obj.cells #[.string y.1.nm, .int .i64 y.1.wk, .int .i64 y.1.rs, .slice ay y.1.af.length ny, .int .i64 y.1.du] 44) = O3 := ⟨_, rfl⟩
        have u2 : (wr.alloc O3).cell? ⟨wr.heap.size, 2, none⟩ = some (.int .i64 y.1.rs) := by rw [← hO3]; simp [go_sem]
        have hbU : Below V.heap.size V (wr.alloc O3) := keepBelow HBJ.out ((Below.refl _ _).alloc (Nat.le_refl _) _)
        have HO3 := Lib.hid hO3
        clear hc2 hj2 hy ey hux huy hO3
        go_upto_region 17 with fail
        rw [HO3.out]
        obtain ⟨ub, hub⟩ : ∃ ub, wr.heap.size = ub := ⟨_, rfl⟩
        rw [hub] at u2 ⊢
        generalize wr.alloc O3 = U at *
        have HBU := Lib.hid hbU
        have e0 := ext_cell u2
        have e1 := ext_cell (keepCell hbU (keepCell HB6.out T2))
        have e2 := ext_cell (keepCell hbU (keepCell HB6.out HP0Y.out))
        have e3 := ext_cell (keepCell hbU (keepCell HB6.out k0))
        have e4 := ext_cell (keepCell hbU (keepCell HB6.out k1))
        have e5 := ext_cell (keepCell hbU HX6.out.1)
        have e6 := ext_cell (keepCell hbU HX6.out.2.1)
        have s1 : (j : Int) < (b.length : Int) := by omega
        clear u2 hub hbU HO3 q0 q1 q2 q3 q4 k0 k1
        by_cases hc1 : y.1.rs = (ρ : Int)
        ·have g1 : (y.1.rs == (ρ : Int)) = true := by simpa using hc1
         by_cases hc2 : ux < ty
         ·have g2 : decide (ux < ty) = true := by simpa using hc2
          by_cases hc3 : tx < uy
          ·have g3 : decide (tx < uy) = true := by simpa using hc3
           have HCBB : Hid (clB (tks L) b k j = true) := by unfold Hid; rw [HCB.out, g1, g2, g3]; rfl
           have hr : r = false := by rw [← HRE.out]; exact h0_no (by rw [tks_length]; exact HLT.out) (h0_bad fun h => by have h1 := (h0_iff.1 h).2.2.2.2.2 j hjl; rw [HCBB.out] at h1; cases h1)
           subst hr
           clear hc1 hc2 hc3
           go_wp2_with fail
           refine wp_region_ext (by kernel_rfl) (by kernel_rfl) ?_
           iterate 25 (go_big_quiet_step (fail))
           refine wpQuiet_nil ?_
           intro w7 hb7
           go_wp2
           go_ret
           exact ⟨rfl, keepBelow (keepBelow (keepBelow HBYW.out HB6.out) HBU.out) hb7⟩
          ·have g3 : decide (tx < uy) = false := by simpa using hc3
           have HCBB : Hid (clB (tks L) b k j = false) := by unfold Hid; rw [HCB.out, g1, g2, g3]; rfl
           clear hc1 hc2 hc3
           go_wp2_with fail
           refine wp_region_ext (by kernel_rfl) (by kernel_rfl) ?_
           iterate 25 (go_big_quiet_step (fail))
           refine wpQuiet_nil ?_
           intro w7 hb7
           have HBN := Lib.hid (keepBelow HBU.out hb7)
           clear hb7 e0 e1 e2 e3 e4 e5 e6
           go_wp2
           go_roundw
           case rel =>
            refine ⟨j + 1, by go_num, by omega, fun q hq => ?_, HBN.out⟩
            rcases Nat.lt_succ_iff_lt_or_eq.1 hq with h | rfl
            ·exact HZJ.out q h
            ·exact HCBB.out
           case measure => simp [intOf]; omega
         ·have g2 : decide (ux < ty) = false := by simpa using hc2
          have HCBB : Hid (clB (tks L) b k j = false) := by unfold Hid; rw [HCB.out, g1, g2]; rfl
          clear hc1 hc2
          go_wp2_with fail
          refine wp_region_ext (by kernel_rfl) (by kernel_rfl) ?_
          iterate 25 (go_big_quiet_step (fail))
          refine wpQuiet_nil ?_
          intro w7 hb7
          have HBN := Lib.hid (keepBelow HBU.out hb7)
          clear hb7 e0 e1 e2 e3 e4 e5 e6
          go_wp2
          go_roundw
          case rel =>
           refine ⟨j + 1, by go_num, by omega, fun q hq => ?_, HBN.out⟩
           rcases Nat.lt_succ_iff_lt_or_eq.1 hq with h | rfl
           ·exact HZJ.out q h
           ·exact HCBB.out
          case measure => simp [intOf]; omega
        ·have g1 : (y.1.rs == (ρ : Int)) = false := by simpa using hc1
         have HCBB : Hid (clB (tks L) b k j = false) := by unfold Hid; rw [HCB.out, g1]; rfl
         clear hc1
         go_wp2_with fail
         refine wp_region_ext (by kernel_rfl) (by kernel_rfl) ?_
         iterate 25 (go_big_quiet_step (fail))
         refine wpQuiet_nil ?_
         intro w7 hb7
         have HBN := Lib.hid (keepBelow HBU.out hb7)
         clear hb7 e0 e1 e2 e3 e4 e5 e6
         go_wp2
         go_roundw
         case rel =>
          refine ⟨j + 1, by go_num, by omega, fun q hq => ?_, HBN.out⟩
          rcases Nat.lt_succ_iff_lt_or_eq.1 hq with h | rfl
          ·exact HZJ.out q h
          ·exact HCBB.out
         case measure => simp [intOf]; omega
       ·have hje : j = k := by omega
        subst hje
        have HOK : Hid (h0B (tks L) (sts R) b j = true) := by
         refine h0_iff.2 ?_
         rw [HSP.out, HSX.out, HTI.out]
         exact ⟨HIVV.out, HHV.out.1, HHV.out.2.1, HPW.out, HAN.out, HZJ.out⟩
        have HBN := Lib.hid (keepBelow (keepBelow HBY.out HB6.out) HBJ.out)
        go_wp2
        go_roundw
        case rel =>
         refine ⟨j + 1, by go_num, by omega, fun q hq => ?_, HBN.out⟩
         rcases Nat.lt_succ_iff_lt_or_eq.1 hq with h | rfl
         ·exact HZ.out q h
         ·exact HOK.out
        case measure => simp [intOf]; omega
     ·have g3 : (pn != x.1.wk) = true := by simpa using hpw
      have hr : r = false := by rw [← HRE.out]; exact h0_no (by rw [tks_length]; exact HLT.out) (h0_bad fun h => by have h1 := (h0_iff.1 h).2.2.2.1; rw [HSP.out, HSX.out, HTI.out, HHV.out.2.2] at h1; exact hpw h1)
      subst hr
      clear hpw
      go_wp2
      go_ret
      exact ⟨rfl, keepBelow HBYW.out HB5.out⟩
    case refine_1 =>
     intro ls a9 w9 i' hI hcl hi'
     rw [HIH.out] at hI
     obtain ⟨β1, β2, u27, u28, u29, u30, u31, u32, u33, u34, u35, u9, u10, hsz, rfl, hB, f0, f1, f2, f3, f4, f5, f6, f7, f8, f9, f10, r9, r10, dd, a0, a1, c0, c1⟩ := hI
     obtain ⟨hj, op, hop, hall⟩ := mem_ready.1 hi'
     have hlt' := (Array.getElem?_eq_some_iff.1 hop).1
     have hlt' : i' < 13 := hlt'
     have hsz' : (ls.setIfInBounds i' true).size = 13 := by rw [Array.size_setIfInBounds]; exact hsz
     rcases (show i' = 0 ∨ i' = 1 ∨ i' = 2 ∨ i' = 3 ∨ i' = 4 ∨ i' = 5 ∨ i' = 6 ∨ i' = 7 ∨ i' = 8 ∨ i' = 9 ∨ i' = 10 ∨ i' = 11 ∨ i' = 12 by omega) with rfl | rfl | rfl | rfl | rfl | rfl | rfl | rfl | rfl | rfl | rfl | rfl | rfl
     ·simp at hop
      subst hop
      refine wpOp_of_list (i := 0) rfl ?_
      go_wp2
      show I _ _ _
      rw [HIH.out]
      exact ⟨β1, β2, _, _, _, _, _, _, _, _, _, _, _, hsz', rfl, (hB), (fun _ => rfl), (gx f1), (gx f2), (gx f3), (gx f4), (gx f5), (gx f6), (gx f7), (gx f8), (gx f9), (gx f10), (gx r9), (gx r10), (gx2 dd), (gx2 a0), (gx a1), (gx2 c0), (gx c1)⟩
     ·simp at hop
      subst hop
      refine wpOp_of_list (i := 1) rfl ?_
      go_wp2
      show I _ _ _
      rw [HIH.out]
      exact ⟨β1, β2, _, _, _, _, _, _, _, _, _, _, _, hsz', rfl, (hB), (gx f0), (fun _ => rfl), (gx f2), (gx f3), (gx f4), (gx f5), (gx f6), (gx f7), (gx f8), (gx f9), (gx f10), (gx r9), (gx r10), (gx2 dd), (gx2 a0), (gx a1), (gx2 c0), (gx c1)⟩
     ·simp at hop
      subst hop
      refine wpOp_of_list (i := 2) rfl ?_
      have e28 := f1.out (hall ⟨1, .data⟩ (by simp) rfl)
      subst e28
      have c9 := keepCell hB HT5.out.2.1
      go_wp2
      show I _ _ _
      rw [HIH.out]
      exact ⟨β1, β2, _, _, _, _, _, _, _, _, _, _, _, hsz', rfl, (hB), (gx f0), (fun _ => rfl), (fun _ => rfl), (gx f3), (gx f4), (gx f5), (gx f6), (gx f7), (gx f8), (gx f9), (gx f10), (gx r9), (gx r10), (gx2 dd), (gx2 a0), (gx a1), (gx2 c0), (gx c1)⟩
     ·simp at hop
      subst hop
      refine wpOp_of_list (i := 3) rfl ?_
      have e27 := f0.out (hall ⟨0, .data⟩ (by simp) rfl)
      subst e27
      have e29 := f2.out (hall ⟨2, .data⟩ (by simp) rfl)
      subst e29
      have hl := HRO.out.2.2
      go_wp2
      show I _ _ _
      rw [HIH.out]
      exact ⟨β1, β2, _, _, _, _, _, _, _, _, _, _, _, hsz', rfl, (hB), (fun _ => rfl), (gx f1), (fun _ => rfl), (fun _ => rfl), (gx f4), (gx f5), (gx f6), (gx f7), (gx f8), (gx f9), (gx f10), (gx r9), (gx r10), (gx2 dd), (gx2 a0), (gx a1), (gx2 c0), (gx c1)⟩
     ·simp at hop
      subst hop
      refine wpOp_of_list (i := 4) rfl ?_
      have e30 := f3.out (hall ⟨3, .data⟩ (by simp) rfl)
      subst e30
      obtain ⟨q0, q1, q2, q3, q4, q5, q6⟩ := HC7.out
      have k0 := keepCell hB q0
      have k1 := keepCell hB q1
      have k2 := keepCell hB q2
      have k3 := keepCell hB q3
      have k4 := keepCell hB q4
      have k5 := keepCell hB q5
      have k6 := keepCell hB q6
      go_wp2
      show I _ _ _
      rw [HIH.out]
      exact ⟨β1, β2, _, _, _, _, _, _, _, _, _, _, _, hsz', rfl, (hB), (gx f0), (gx f1), (gx f2), (fun _ => rfl), (fun _ => rfl), (gx f5), (gx f6), (gx f7), (gx f8), (gx f9), (gx f10), (gx r9), (gx r10), (gx2 dd), (gx2 a0), (gx a1), (gx2 c0), (gx c1)⟩
     ·simp at hop
      subst hop
      refine wpOp_of_list (i := 5) rfl ?_
      have c9 := keepCell hB HP0Y.out
      go_wp2
      show I _ _ _
      rw [HIH.out]
      exact ⟨β1, β2, _, _, _, _, _, _, _, _, _, _, _, hsz', rfl, (hB), (gx f0), (gx f1), (gx f2), (gx f3), (gx f4), (fun _ => rfl), (gx f6), (gx f7), (gx f8), (gx f9), (gx f10), (gx r9), (gx r10), (gx2 dd), (gx2 a0), (gx a1), (gx2 c0), (gx c1)⟩
     ·simp at hop
      subst hop
      refine wpOp_of_list (i := 6) rfl ?_
      go_wp2
      show I _ _ _
      rw [HIH.out]
      exact ⟨β1, β2, _, _, _, _, _, _, _, _, _, _, _, hsz', rfl, (hB), (gx f0), (gx f1), (gx f2), (gx f3), (gx f4), (gx f5), (fun _ => rfl), (gx f7), (gx f8), (gx f9), (gx f10), (gx r9), (gx r10), (gx2 dd), (gx2 a0), (gx a1), (gx2 c0), (gx c1)⟩
     ·simp at hop
      subst hop
      refine wpOp_of_list (i := 7) rfl ?_
      have e32 := f5.out (hall ⟨5, .data⟩ (by simp) rfl)
      subst e32
      have e33 := f6.out (hall ⟨6, .data⟩ (by simp) rfl)
      subst e33
      have hl := HLT.out
      have hl2 := HNE.out
      have hl3 : k < b.length := by omega
      clear hl2
      go_wp2
      show I _ _ _
      rw [HIH.out]
      exact ⟨β1, β2, _, _, _, _, _, _, _, _, _, _, _, hsz', rfl, (hB), (gx f0), (gx f1), (gx f2), (gx f3), (gx f4), (fun _ => rfl), (fun _ => rfl), (fun _ => rfl), (gx f8), (gx f9), (gx f10), (gx r9), (gx r10), (gx2 dd), (gx2 a0), (gx a1), (gx2 c0), (gx c1)⟩
     ·simp at hop
      subst hop
      refine wpOp_of_list (i := 8) rfl ?_
      have e34 := f7.out (hall ⟨7, .data⟩ (by simp) rfl)
      subst e34
      have k0 := keepCell hB HSC.out.1
      have k1 := keepCell hB HSC.out.2
      go_wp2
      show I _ _ _
      rw [HIH.out]
      exact ⟨β1, β2, _, _, _, _, _, _, _, _, _, _, _, hsz', rfl, (hB), (gx f0), (gx f1), (gx f2), (gx f3), (gx f4), (gx f5), (gx f6), (fun _ => rfl), (fun _ => rfl), (gx f9), (gx f10), (gx r9), (gx r10), (gx2 dd), (gx2 a0), (gx a1), (gx2 c0), (gx c1)⟩
     ·simp at hop
      subst hop
      refine wpOp_of_list (i := 9) rfl ?_
      have y9 := not_listed hj
      have y11 := hcl.off (i := 9) (j := 11) rfl y9 ⟨⟨9, .data⟩, by simp, rfl, rfl⟩
      have x9 := Lib.hid y9
      clear y9
      have x11 := Lib.hid y11
      clear y11
      have hb8 : Below w9.heap.size w9 (w9.alloc (.cells #[.int .i64 0, .slice none 0 0, .int .i64 0, .slice none 0 0, .int .i64 0, .int .i64 0, .slice none 0 0] 54)) := (Below.refl _ _).alloc (Nat.le_refl _) _
      have hz8 : w9.heap.size < (w9.alloc (.cells #[.int .i64 0, .slice none 0 0, .int .i64 0, .slice none 0 0, .int .i64 0, .int .i64 0, .slice none 0 0] 54)).heap.size := by simp
      have hs8 := hB.size
      go_wp2
      show I _ _ _
      rw [HIH.out]
      exact ⟨w9.heap.size, β2, _, _, _, _, _, _, _, _, _, _, _, hsz', rfl, (keepBelow hB hb8), (gx f0), (gx f1), (gx f2), (gx f3), (gx f4), (gx f5), (gx f6), (gx f7), (gx f8), (fun _ => rfl), (gx f10), (fun _ => ⟨hs8, hz8⟩), (fun h => ⟨(r10.out (gd h)).1, Nat.lt_of_lt_of_le (r10.out (gd h)).2 hb8.size⟩), (fun _ h => Nat.ne_of_gt (r10.out (gd h)).2), (fun _ _ => set7_fresh w9 _ _ _ _ _ _ _), (fun h => absurd (gd h) (by rw [x11.out]; exact Bool.false_ne_true)), (fun h h' => (c0.out (gd h) (gd h')).below hb8), (fun h => (c1.out (gd h)).below hb8)⟩
     ·simp at hop
      subst hop
      refine wpOp_of_list (i := 10) rfl ?_
      have y10 := not_listed hj
      have y12 := hcl.off (i := 10) (j := 12) rfl y10 ⟨⟨10, .data⟩, by simp, rfl, rfl⟩
      have x10 := Lib.hid y10
      clear y10
      have x12 := Lib.hid y12
      clear y12
      have hb8 : Below w9.heap.size w9 (w9.alloc (.cells #[.int .i64 0, .int .i64 0] 46)) := (Below.refl _ _).alloc (Nat.le_refl _) _
      have hz8 : w9.heap.size < (w9.alloc (.cells #[.int .i64 0, .int .i64 0] 46)).heap.size := by simp
      have hs8 := hB.size
      go_wp2
      show I _ _ _
      rw [HIH.out]
      exact ⟨β1, w9.heap.size, _, _, _, _, _, _, _, _, _, _, _, hsz', rfl, (keepBelow hB hb8), (gx f0), (gx f1), (gx f2), (gx f3), (gx f4), (gx f5), (gx f6), (gx f7), (gx f8), (gx f9), (fun _ => rfl), (fun h => ⟨(r9.out (gd h)).1, Nat.lt_of_lt_of_le (r9.out (gd h)).2 hb8.size⟩), (fun _ => ⟨hs8, hz8⟩), (fun h _ => Nat.ne_of_lt (r9.out (gd h)).2), (fun h h' => (a0.out (gd h) (gd h')).below hb8), (fun h => (a1.out (gd h)).below hb8), (fun _ _ => boxS_new w9), (fun h => absurd (gd h) (by rw [x12.out]; exact Bool.false_ne_true))⟩
     ·simp at hop
      subst hop
      refine wpOp_of_list (i := 11) rfl ?_
      have e9 := f9.out (hall ⟨9, .data⟩ (by simp) rfl)
      subst e9
      have e31 := f4.out (hall ⟨4, .data⟩ (by simp) rfl)
      subst e31
      have y11 := not_listed hj
      have hl9 := hall ⟨9, .data⟩ (by simp) rfl
      have hbx := a0.out hl9 y11
      have hbb := r9.out hl9
      have hn := hbx
      obtain ⟨-, z0, z1, z2, z3, z4, z5, z6⟩ := hn
      have hn2 := hbx
      obtain ⟨⟨t0, t1, t2, t3, t4, t5, t6⟩, -⟩ := hn2
      have hp7 := set7_puts hbx (.int .i64 z.1.lf.1) (.slice b1 z.1.lf.2.length m1) (.int .i64 z.1.rt.1) (.slice b2 z.1.rt.2.length m2) (.int .i64 z.1.fr) (.int .i64 z.1.to) (.slice b3 z.1.l.length m3)
      have hb9 := put7_below (.int .i64 z.1.lf.1) (.slice b1 z.1.lf.2.length m1) (.int .i64 z.1.rt.1) (.slice b2 z.1.rt.2.length m2) (.int .i64 z.1.fr) (.int .i64 z.1.to) (.slice b3 z.1.l.length m3) hB hbb.1
      have hsz9 : w9.heap.size ≤ (put7 w9 β1 (.int .i64 z.1.lf.1) (.slice b1 z.1.lf.2.length m1) (.int .i64 z.1.rt.1) (.slice b2 z.1.rt.2.length m2) (.int .i64 z.1.fr) (.int .i64 z.1.to) (.slice b3 z.1.l.length m3)).heap.size := by simp [put7]
      clear y11
      go_wp2
      show I _ _ _
      rw [HIH.out]
      exact ⟨β1, β2, _, _, _, _, _, _, _, _, _, _, _, hsz', rfl, (hb9), (gx f0), (gx f1), (gx f2), (gx f3), (fun _ => rfl), (gx f5), (gx f6), (gx f7), (gx f8), (fun _ => rfl), (gx f10), (fun h => ⟨(r9.out (gd h)).1, Nat.lt_of_lt_of_le (r9.out (gd h)).2 hsz9⟩), (fun h => ⟨(r10.out (gd h)).1, Nat.lt_of_lt_of_le (r10.out (gd h)).2 hsz9⟩), (gx2 dd), (fun _ h => by rw [getD_self (by omega)] at h; cases h), (fun _ => hp7), (fun h h' => box_far7 (c0.out (gd h) (gd h')) (dd.out hl9 (gd h))), (fun h => box_far7 (c1.out (gd h)) (dd.out hl9 (hcl 12 _ (gd h) rfl ⟨10, .data⟩ (by simp) rfl)))⟩
     ·simp at hop
      subst hop
      refine wpOp_of_list (i := 12) rfl ?_
      have e10 := f10.out (hall ⟨10, .data⟩ (by simp) rfl)
      subst e10
      have e35 := f8.out (hall ⟨8, .data⟩ (by simp) rfl)
      subst e35
      have y12 := not_listed hj
      have hl10 := hall ⟨10, .data⟩ (by simp) rfl
      have hbx := c0.out hl10 y12
      have hbb := r10.out hl10
      have hp7 : BoxS (puS w9 β2 (.int .i64 tx) (.int .i64 ty)) β2 tx ty := puS_box hbx
      have hb9 := puS_below (.int .i64 tx) (.int .i64 ty) hB hbb.1
      have hsz9 : w9.heap.size ≤ (puS w9 β2 (.int .i64 tx) (.int .i64 ty)).heap.size := by simp [puS]
      obtain ⟨z0, z1, z2, z3⟩ := hbx
      clear y12
      go_wp2
      show I _ _ _
      rw [HIH.out]
      exact ⟨β1, β2, _, _, _, _, _, _, _, _, _, _, _, hsz', rfl, (hb9), (gx f0), (gx f1), (gx f2), (gx f3), (gx f4), (gx f5), (gx f6), (gx f7), (fun _ => rfl), (gx f9), (fun _ => rfl), (fun h => ⟨(r9.out (gd h)).1, Nat.lt_of_lt_of_le (r9.out (gd h)).2 hsz9⟩), (fun h => ⟨(r10.out (gd h)).1, Nat.lt_of_lt_of_le (r10.out (gd h)).2 hsz9⟩), (gx2 dd), (fun h h' => ((a0.out (gd h) (gd h')).farX (dd.out (gd h) hl10).symm).farX (dd.out (gd h) hl10).symm), (fun h => ((a1.out (gd h)).farX (dd.out (hcl 11 _ (gd h) rfl ⟨9, .data⟩ (by simp) rfl) hl10).symm).farX (dd.out (hcl 11 _ (gd h) rfl ⟨9, .data⟩ (by simp) rfl) hl10).symm), (fun _ h => by rw [getD_self (by omega)] at h; cases h), (fun _ => hp7)⟩
   ·have hkl : k = L.length := by omega
    subst hkl
    have hr : r = true := by rw [← HRE.out]; exact h0_yes (by rw [tks_length]; exact HNE.out) (fun i hi => HZ.out i (by rwa [tks_length] at hi))
    subst hr
    have HB2 := Lib.hid (keepBelow HB1.out HBr.out)
    go_wp2
    go_ret
    exact ⟨rfl, HB2.out⟩
 ·have g1 : ((b.length : Int) != (L.length : Int)) = true := by simp; omega
  have hr : r = false := by
   rw [← HRE.out]
   unfold holdsM
   rw [decide_eq_false (by rw [tks_length]; exact hne)]
   rfl
  subst hr
  clear hne
  have p0 := HP0.out
  go_wp2
  go_ret
  exact ⟨rfl, HB1.out⟩
end Go.Proofs.YtlbjfbpejomkmaaGreat
