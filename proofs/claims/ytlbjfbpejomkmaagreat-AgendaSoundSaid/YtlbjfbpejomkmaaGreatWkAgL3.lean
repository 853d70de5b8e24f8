import Derived.Test.YtlbjfbpejomkmaaGreatWkAgQj
import Derived.Test.YtlbjfbpejomkmaaGreatWkAgRv
import Derived.Test.YtlbjfbpejomkmaaGreatWkAgQg
import Derived.Test.YtlbjfbpejomkmaaGreatWkAg7
/- The law AgendaSound. -/
namespace Go.Proofs.YtlbjfbpejomkmaaGreat
open Go.RowKit Wk

set_option maxRecDepth 100000 in
set_option maxHeartbeats 16000000 in
theorem law_AgendaSound (vl vR : Value) (start most : Int) (L : List Kv) (R : List Sw) (w : World) (hL : RdK w vl L) (hR : RdR w vR R) (hcap : CapK vl) :
    Calls Tryz.prog 8 #[vl, vR, .int .i64 start, .int .i64 most] w fun e w' => e = .returned (.bool true) ∧ Below w.heap.size w w' := by
  have HA := Lib.hid (fun W => awake48_any W)
  have HG := Lib.hid (fun W h h' => great_wk vl vR L R W h h')
  have HSC := Lib.hid (fun W h h' => sched_any vl vR start most L R W h h')
  have HW := Lib.hid (fun W h h' => rvalid48_any vl vR L R W h h')
  have HHO := Lib.hid (fun va b W h1 h2 h3 => aholds_any vl vR va start L R b W h1 h2 h3 hcap)
  have HLT := Lib.hid (fun va b W h h' hl => late_any vl va L b W h h' hl)
  have HL := Lib.hid hL
  have HR := Lib.hid hR
  obtain ⟨al, cl, rfl⟩ := hL.form
  obtain ⟨aR, cR, rfl⟩ := hR.form
  clear hL hR hcap
  go_enter Tryz.func8, Tryz.ntmps8
  go_wp2_with fail
  refine (HA.out _).mono ?_
  rintro e w1 ⟨rfl, hb1⟩
  have HL1 := Lib.hid (HL.out.below hb1)
  have HR1 := Lib.hid (HR.out.below hb1)
  have HB1 := Lib.hid hb1
  clear hb1
  go_wp2_with fail
  refine (HG.out _ HL1.out HR1.out).mono ?_
  rintro e w2 ⟨g, rfl, hgr, hb2⟩
  have HL2 := Lib.hid (HL1.out.below hb2)
  have HR2 := Lib.hid (HR1.out.below hb2)
  have HB2 := Lib.hid (keepBelow HB1.out hb2)
  have HGR := Lib.hid hgr
  clear hb2 hgr
  cases g with
  | true =>
    go_wp2
    go_ret
    exact ⟨rfl, HB2.out⟩
  | false =>
  have HWK := Lib.hid (HGR.out rfl)
  by_cases hm1 : 500 < most
  · have g1 : decide (500 < most) = true := by simpa using hm1
    clear hm1
    go_wp2
    go_ret
    exact ⟨rfl, HB2.out⟩
  have g1 : decide (500 < most) = false := by simpa using hm1
  clear hm1
  go_wp2_with fail
  refine (HSC.out _ HL2.out HR2.out).mono ?_
  rintro e w3 ⟨hb3, h1, h2⟩
  have HL3 := Lib.hid (HL2.out.below hb3)
  have HR3 := Lib.hid (HR2.out.below hb3)
  have HB3 := Lib.hid (keepBelow HB2.out hb3)
  clear hb3
  cases hsb : schB (tks L) (sts R) start most with
  | false =>
    have h3 := h2 hsb
    subst h3
    clear h1 h2 hsb
    go_wp2
    go_ret
    exact ⟨rfl, HB3.out⟩
  | true =>
  have h3 := h1 hsb
  clear h1 h2
  cases hf : findM (tks L) (sts R) start most with
  | out =>
    rw [hf] at h3
    have h3 : e = _ := h3
    subst h3
    clear hf hsb
    go_wp2
    go_ret
    exact ⟨rfl, HB3.out⟩
  | no left' =>
    rw [hf] at h3
    have h3 : e = _ := h3
    subst h3
    clear hf hsb
    go_wp2
    go_ret
    exact ⟨rfl, HB3.out⟩
  | ok a =>
  rw [hf] at h3
  obtain ⟨g4, rfl, _, hrow, ha24⟩ := h3
  have hsb2 : vldM (tks L) (sts R) = true ∧ lineB start = true := by
    unfold schB at hsb
    simp only [Bool.and_eq_true] at hsb
    exact ⟨hsb.1.1.1, hsb.1.1.2⟩
  have HVL := Lib.hid hsb2.1
  have HVP := Lib.hid (vld_parts hsb2.1)
  have HVV := Lib.hid (vld_V hsb2.1)
  have hsch := find_ok HVV.out hf
  have hhl := holds_of_sch ((lineB_iff start).1 hsb2.2).1 hsch
  have HHM : Hid (HoM (tks L) (sts R) start a = true) := by unfold Hid HoM; rw [hsb2.1, hsb2.2, hhl.1]; rfl
  have HAL : Hid (a.length = L.length) := by have := hsch.len; rw [tks_length] at this; exact this
  have HLM : Hid (lateM (tks L) a = []) := by unfold Hid lateM; rw [if_pos hsch.len.symm]; exact hhl.2
  have HFT := Lib.hid hsch.fits
  have HX3 := Lib.hid (hrow.rd ha24)
  have HLN : Hid (L.length ≤ 24) := HVP.out.2.2.1
  clear hsb hf hrow ha24 hsb2 hsch hhl
  go_wp2_with fail
  refine (HW.out _ HL3.out HR3.out).mono ?_
  rintro e w4 ⟨rfl, hb4⟩
  rw [HVL.out]
  have HL4 := Lib.hid (HL3.out.below hb4)
  have HR4 := Lib.hid (HR3.out.below hb4)
  have HX4 := Lib.hid (keepRd hb4 HX3.out)
  have HB4 := Lib.hid (keepBelow HB3.out hb4)
  clear hb4
  go_wp2_with fail
  refine (HHO.out _ _ _ HL4.out HR4.out HX4.out).mono ?_
  rintro e w5 ⟨rfl, hb5⟩
  rw [HHM.out]
  have HL5 := Lib.hid (HL4.out.below hb5)
  have HR5 := Lib.hid (HR4.out.below hb5)
  have HX5 := Lib.hid (keepRd hb5 HX4.out)
  have HB5 := Lib.hid (keepBelow HB4.out hb5)
  clear hb5
  go_wp2_with fail
  refine (HLT.out _ _ _ HL5.out HX5.out (by have := HLN.out; omega)).mono ?_
  rintro e w6 ⟨v6, rfl, o6, hb6⟩
  rw [HLM.out] at o6
  obtain ⟨a6, c6, rfl, _⟩ := o6.form
  have HL6 := Lib.hid (HL5.out.below hb6)
  have HR6 := Lib.hid (HR5.out.below hb6)
  have HX6 := Lib.hid (keepRd hb6 HX5.out)
  have HB6 := Lib.hid (keepBelow HB5.out hb6)
  have hal := HAL.out
  have gal : ((a.length : Int) != (L.length : Int)) = false := by simp; omega
  have hnil : (natI []).length = 0 := rfl
  rw [hnil]
  clear hb6 o6 hal hnil
  go_wp2_with fail
  clear gal g1
  go_loopw [65] (fun u wr => ∃ k : Nat, u = .int .i64 k ∧ k ≤ L.length ∧ Hid (Below w6.heap.size w6 wr)) (fun u _ => L.length - (intOf u).toNat)
  case atStart => exact ⟨0, rfl, Nat.zero_le _, Below.refl _ _⟩
  case round =>
    obtain ⟨k, rfl, hk, HBr⟩ := hrel
    by_cases hlt : k < L.length
    · obtain ⟨al', cl', ea, _, hc⟩ := HL6.out.below HBr.out
      cases ea
      obtain ⟨hj, bl, ol, rfl, q0, q1, q2, q3, q4⟩ := hc k hlt
      obtain ⟨x, hx⟩ : ∃ x, L.getD k kv0 = x := ⟨_, rfl⟩
      rw [hx] at hj q0 q1 q2 q3 q4
      obtain ⟨ax, nx, ex⟩ := hj.form
      rw [ex] at q3 hj
      have HTI : Hid (tkAt (tks L) k = x.1) := by unfold Hid; rw [tks_at, hx]
      obtain ⟨ρ, hρ⟩ : ∃ ρ : Nat, reOf (tks L) k = ρ := ⟨_, rfl⟩
      have hrs := HVV.out.rs k (by rw [tks_length]; exact hlt)
      have hρ1 : x.1.rs = (ρ : Int) := by
        rw [← hρ]
        unfold reOf
        rw [HTI.out]
        rw [HTI.out] at hrs
        omega
      have hρ2 : ρ < R.length := by rw [← hρ]; have := hrs.2; rwa [sts_length] at this
      have HRO := Lib.hid (And.intro hρ (And.intro hρ1 hρ2))
      rw [hρ1] at q2
      have hwkk : x.1.wk ≤ 200 := by
        have h1 := List.any_eq_false.1 HWK.out.2 (L.getD k kv0) (getD_in hlt)
        have h2 := HVP.out.2.1 k hlt
        rw [hx] at h1 h2
        unfold lgK at h1
        simp only [Bool.and_eq_true, decide_eq_true_eq, not_and] at h1
        omega
      have HWKK := Lib.hid hwkk
      obtain ⟨O2, hO2⟩ : ∃ O2, (Obj.cells #[.string x.1.nm, .int .i64 x.1.wk, .int .i64 (ρ : Nat), .slice ax x.1.af.length nx, .int .i64 x.1.du] 44) = O2 := ⟨_, rfl⟩
      have HT5 : Hid ((wr.alloc O2).cell? ⟨wr.heap.size, 1, none⟩ = some (.int .i64 x.1.wk) ∧ (wr.alloc O2).cell? ⟨wr.heap.size, 2, none⟩ = some (.int .i64 (ρ : Nat)) ∧ (wr.alloc O2).cell? ⟨wr.heap.size, 4, none⟩ = some (.int .i64 x.1.du)) := by
        rw [← hO2]
        refine ⟨?_, ?_, ?_⟩ <;> simp [go_sem]
      have hbY : Below wr.heap.size wr (wr.alloc O2) := (Below.refl _ _).alloc (Nat.le_refl _) _
      have HLTK := Lib.hid hlt
      have HO2 := Lib.hid hO2
      clear hc hx hj ex hρ hρ1 hρ2 hrs hO2 hwkk
      go_upto_region 13 with fail
      rw [HO2.out]
      clear HO2 q0 q1 q2 q3 q4
      obtain ⟨tb, htb⟩ : ∃ tb, wr.heap.size = tb := ⟨_, rfl⟩
      rw [htb] at HT5 ⊢
      generalize wr.alloc O2 = Y at *
      have HBY := Lib.hid (keepBelow HBr.out hbY)
      have HRY := Lib.hid (HR6.out.below HBY.out)
      have HXY := Lib.hid (keepRd HBY.out HX6.out)
      clear hbY htb
      obtain ⟨aR', cR', evR, _, hcR⟩ := HRY.out
      cases evR
      obtain ⟨hr7, br, orr, rfl, p0, p1, p2, p3, p4, p5, p6⟩ := hcR ρ HRO.out.2.2
      obtain ⟨z, hz⟩ : ∃ z, R.getD ρ sw0 = z := ⟨_, rfl⟩
      rw [hz] at hr7 p0 p1 p2 p3 p4 p5 p6
      obtain ⟨b1, m1, k1⟩ := hr7.1.form
      obtain ⟨b2, m2, k2⟩ := hr7.2.1.form
      obtain ⟨b3, m3, k3⟩ := hr7.2.2.form
      rw [k1] at p1
      rw [k2] at p3
      rw [k3] at p6
      rw [k1, k2, k3] at hr7
      have HC7 := Lib.hid (And.intro p0 (And.intro p1 (And.intro p2 (And.intro p3 (And.intro p4 (And.intro p5 p6))))))
      have HSX : Hid (setOf (tks L) (sts R) k = z.1) := by unfold Hid setOf; rw [HRO.out.1, sts_at, hz]
      have hvz : VB z.1 = true := by have := HVP.out.1 ρ HRO.out.2.2; rwa [hz] at this
      obtain ⟨as', cs', evs, _, hcs⟩ := HXY.out
      cases evs
      obtain ⟨_, _, ega, sx, sy⟩ := hcs k (by rw [HAL.out]; exact hlt)
      cases ega
      obtain ⟨tx, htx⟩ : ∃ t, (a.getD k (0, 0)).1 = t := ⟨_, rfl⟩
      obtain ⟨ty, hty⟩ : ∃ t, (a.getD k (0, 0)).2 = t := ⟨_, rfl⟩
      rw [htx] at sx
      rw [hty] at sy
      have HSP : Hid (spAt a k = (tx, ty)) := by unfold Hid spAt; rw [← htx, ← hty]
      have HSC2 := Lib.hid (And.intro sx sy)
      have hft := HFT.out k (by rw [tks_length]; exact hlt)
      unfold Fits dueOf at hft
      rw [HSP.out, HSX.out, HTI.out] at hft
      obtain ⟨f1, f2, f3, f4, f5, f6, f7⟩ := hft
      have f1 : start ≤ tx := f1
      have f4 : tx < ty := f4
      have f5 : ty ≤ 4398046511104 := f5
      have f7 : ty ≤ x.1.du := f7
      have f6 : potS z.1 ty - potS z.1 tx = x.1.wk := f6
      have f0 : -4398046511104 ≤ tx := by
        have h1 := HHM.out
        unfold HoM at h1
        simp only [Bool.and_eq_true] at h1
        have := ((lineB_iff start).1 h1.1.2).1
        omega
      have hww := win_work (okS_of_VB hvz).good hvz (f := tx) (t := ty) ((ivB_iff (tx, ty)).2 ⟨f0, f4, f5⟩) (by have := HWKK.out; omega)
      obtain ⟨wl, hwl⟩ : ∃ l, (winM (VB z.1) z.1 tx ty).1 = l := ⟨_, rfl⟩
      obtain ⟨wc, hwc⟩ : ∃ l, (winM (VB z.1) z.1 tx ty).2 = l := ⟨_, rfl⟩
      rw [hwl, hwc] at hww
      have HWIN : Hid (∀ W', Below Y.heap.size Y W' → Calls Tryz.prog 28 #[.agg #[.int .i64 z.1.lf.1, .slice b1 z.1.lf.2.length m1, .int .i64 z.1.rt.1, .slice b2 z.1.rt.2.length m2, .int .i64 z.1.fr, .int .i64 z.1.to, .slice b3 z.1.l.length m3], .agg #[.int .i64 tx, .int .i64 ty]] W' fun e w' => ∃ v, e = .returned (.tuple #[v, .int .i64 0]) ∧ RdS w' v wl ∧ Below W'.heap.size W' w') := fun W' hW' => by
        refine (window_any z.1 _ _ _ tx ty W' (keepSt hW' hr7)).mono ?_
        rintro e w' ⟨v, he, ho, hb⟩
        rw [hwc, hww.1] at he
        rw [hwl] at ho
        exact ⟨v, he, ho.rd (by have := hww.2.2; omega), hb⟩
      have HMW : Hid (meas wl = x.1.wk ∧ wl.length ≤ 200) := ⟨by rw [hww.2.1]; exact f6, hww.2.2⟩
      have HMB : Hid (∀ j, j < wl.length → ∀ p q, (wl.getD j (0, 0)).1 = p → (wl.getD j (0, 0)).2 = q → 0 ≤ meas (wl.take j) ∧ meas (wl.take j) ≤ 200 ∧ -4398046511104 ≤ p ∧ p ≤ 4398046511104 ∧ -4398046511104 ≤ q ∧ q ≤ 4398046511104) := fun j hj p q hp hq => by
        have h1 := win_bd (s := z.1) (f := tx) (t := ty) (okS_of_VB hvz).good hvz ((ivB_iff (tx, ty)).2 ⟨f0, f4, f5⟩) (by have := HWKK.out; omega) (j := j) (by rw [hwl]; exact hj)
        rw [hwl, hp, hq] at h1
        omega
      have HF := Lib.hid (And.intro f1 f7)
      have HTXY : Hid (-4398046511104 ≤ tx ∧ ty ≤ 4398046511104) := ⟨f0, f5⟩
      clear hr7 p0 p1 p2 p3 p4 p5 p6 hz k1 k2 k3 hcR hcs sx sy htx hty hvz f0 f1 f2 f3 f4 f5 f6 f7 hww hwl hwc
      refine wp_region_any (by kernel_rfl) ?_
      change wpAny _ _ _ _ _ _ _ Y.drew
      obtain ⟨I, HIe⟩ : ∃ I : Array Bool → Act → World → Prop, I = fun (ls : Array Bool) (a9 : Act) (w9 : World) => ∃ (vw : Value) (u70 u71 u72 u73 u74 u75 u76 u77 u78 u79 u80 u81 u82 u13 u14 : Value), ls.size = 15 ∧ a9 = ⟨#[(Value.slice (some { block := bl, off := ol }) L.length cl), (Value.slice (some { block := br, off := orr }) R.length cR), (Value.int IntKind.i64 start), (Value.int IntKind.i64 most), undef, undef, undef, undef, (u8), (Value.slice (some { block := g4, off := 0 }) a.length a.length), (Value.int IntKind.i64 0), (Value.int IntKind.i64 ↑k), (Value.pointer (some { block := tb, off := 0 })), u13, u14, (u15), undef, (u17), (Value.bool true), (Value.bool false), (Value.slice (some { block := bl, off := ol }) L.length cl), (Value.slice (some { block := br, off := orr }) R.length cR), (Value.bool false), (Value.bool false), (Value.int IntKind.i64 most), (Value.bool false), (Value.bool false), (Value.tuple #[Value.slice (some { block := g4, off := 0 }) a.length a.length, Value.int IntKind.i64 0]), (Value.slice (some { block := bl, off := ol }) L.length cl), (Value.slice (some { block := br, off := orr }) R.length cR), (Value.int IntKind.i64 start), (Value.int IntKind.i64 most), (Value.tuple #[Value.slice (some { block := g4, off := 0 }) a.length a.length, Value.int IntKind.i64 0]), (Value.slice (some { block := g4, off := 0 }) a.length a.length), (Value.int IntKind.i64 0), (Value.int IntKind.i64 0), (Value.bool false), (Value.slice (some { block := bl, off := ol }) L.length cl), (Value.slice (some { block := br, off := orr }) R.length cR), (Value.bool true), (Value.bool false), (Value.bool false), (Value.slice (some { block := bl, off := ol }) L.length cl), (Value.slice (some { block := br, off := orr }) R.length cR), (Value.int IntKind.i64 start), (Value.slice (some { block := g4, off := 0 }) a.length a.length), (Value.bool true), (Value.bool false), (Value.bool false), (Value.bool false), (Value.slice (some { block := bl, off := ol }) L.length cl), (Value.slice (some { block := g4, off := 0 }) a.length a.length), (Value.slice a6 0 c6), (Value.int IntKind.i64 0), (Value.bool false), (Value.bool false), (Value.bool false), (Value.slice (some { block := g4, off := 0 }) a.length a.length), (Value.int IntKind.i64 ↑a.length), (Value.slice (some { block := bl, off := ol }) L.length cl), (Value.int IntKind.i64 ↑L.length), (Value.bool false), (Value.bool false), (Value.slice (some { block := bl, off := ol }) L.length cl), (Value.int IntKind.i64 ↑L.length), (Value.int IntKind.i64 ↑k), (Value.bool true), (Value.int IntKind.i64 ↑k), (Value.pointer (some { block := bl, off := ol + k * 5 })), (Value.agg #[Value.string x.fst.nm, Value.int IntKind.i64 x.fst.wk, Value.int IntKind.i64 ↑ρ, Value.slice ax x.fst.af.length nx, Value.int IntKind.i64 x.fst.du]), u70, u71, u72, u73, u74, u75, u76, u77, u78, u79, u80, u81, u82, (u83), (u84), (u85), (u86), (u87), (u88), (u89), (u90), (u91), (u92), (u93), (u94), (u95), (u96), (u97), (u98), (u99), (u100), (u101), (u102), (u103), (u104), (u105), (u106), (u107), (u108), (u109), (u110), (u111), (u112), (u113), (u114), (u115), (u116), (u117), (u118), (u119), (u120), (u121), (u122), (u123), (u124)], []⟩ ∧ Below Y.heap.size Y w9 ∧ Hid (ls.getD 0 false = true → u71 = .slice (some ⟨br, orr, none⟩) R.length cR) ∧ Hid (ls.getD 1 false = true → u72 = .pointer (some ⟨tb, 2, none⟩)) ∧ Hid (ls.getD 2 false = true → u73 = .int .i64 (ρ : Nat)) ∧ Hid (ls.getD 3 false = true → u74 = .pointer (some ⟨br, orr + ρ * 7, none⟩)) ∧ Hid (ls.getD 4 false = true → u75 = .agg #[.int .i64 z.1.lf.1, .slice b1 z.1.lf.2.length m1, .int .i64 z.1.rt.1, .slice b2 z.1.rt.2.length m2, .int .i64 z.1.fr, .int .i64 z.1.to, .slice b3 z.1.l.length m3]) ∧ Hid (ls.getD 5 false = true → u76 = .slice (some ⟨g4, 0, none⟩) a.length a.length) ∧ Hid (ls.getD 6 false = true → u77 = .int .i64 (k : Nat)) ∧ Hid (ls.getD 7 false = true → u78 = .pointer (some ⟨g4, k * 2, none⟩)) ∧ Hid (ls.getD 8 false = true → u79 = .agg #[.int .i64 tx, .int .i64 ty]) ∧ Hid (ls.getD 9 false = true → u80 = .tuple #[vw, .int .i64 0]) ∧ Hid (ls.getD 10 false = true → u70 = .tuple #[vw, .int .i64 0]) ∧ Hid (ls.getD 11 false = true → u81 = vw) ∧ Hid (ls.getD 12 false = true → u82 = .int .i64 0) ∧ Hid (ls.getD 13 false = true → u13 = vw) ∧ Hid (ls.getD 14 false = true → u14 = .int .i64 0) ∧ Hid (ls.getD 9 false = true → RdS w9 vw wl) := ⟨_, rfl⟩
      have HIH := Lib.hid HIe
      clear HIe
      refine wpAny_invC I ?_ ?_ _ _ _ _ ?_ ?_ ?_
      case refine_3 =>
        rw [HIH.out]
        exact ⟨undef, u70, u71, u72, u73, u74, u75, u76, u77, u78, u79, u80, u81, u82, u13, u14, rfl, rfl, (Below.refl _ Y).drew, (fun h => by cases h), (fun h => by cases h), (fun h => by cases h), (fun h => by cases h), (fun h => by cases h), (fun h => by cases h), (fun h => by cases h), (fun h => by cases h), (fun h => by cases h), (fun h => by cases h), (fun h => by cases h), (fun h => by cases h), (fun h => by cases h), (fun h => by cases h), (fun h => by cases h), (fun h => by cases h)⟩
      case refine_4 => intro j; exact getD_rep _ _
      case refine_5 => decide
      case refine_2 =>
        intro ls a9 w9 hI hr
        rw [HIH.out] at hI
        obtain ⟨vw, u70, u71, u72, u73, u74, u75, u76, u77, u78, u79, u80, u81, u82, u13, u14, hsz, rfl, hB, f0, f1, f2, f3, f4, f5, f6, f7, f8, f9, f10, f11, f12, f13, f14, rwf⟩ := hI
        have hall := all_listed_rk [0, 1, 2, 3, 4, 5, 6, 7, 8, 9, 10, 11, 12, 13, 14] hsz (by kernel_rfl) hr
        have hrw := rwf.out (hall 9 (by decide))
        have e13 := f13.out (hall 13 (by decide))
        have e14 := f14.out (hall 14 (by decide))
        subst e13
        subst e14
        have HRW := Lib.hid hrw
        have HBZ := Lib.hid hB
        obtain ⟨aw, cw, rfl⟩ := hrw.form
        clear hB rwf hall hr hsz f0 f1 f2 f3 f4 f5 f6 f7 f8 f9 f10 f11 f12
        generalize w9 = Z at *
        have HTZ := Lib.hid (And.intro (keepCell HBZ.out HT5.out.1) (keepCell HBZ.out HT5.out.2.2))
        have HSZ := Lib.hid (And.intro (keepCell HBZ.out HSC2.out.1) (keepCell HBZ.out HSC2.out.2))
        have HBN := Lib.hid (keepBelow HBY.out HBZ.out)
        go_wp2_with fail
        go_loopw [85, 15] (fun u v wr' => ∃ j : Nat, u = .int .i64 j ∧ j ≤ wl.length ∧ v = .int .i64 (meas (wl.take j)) ∧ Hid (Below Z.heap.size Z wr')) (fun u _ _ => wl.length - (intOf u).toNat)
        case atStart => exact ⟨0, rfl, Nat.zero_le _, rfl, Below.refl _ _⟩
        case round =>
          obtain ⟨j, rfl, hj, rfl, HBJ⟩ := hrel
          by_cases hjl : j < wl.length
          · obtain ⟨aw', cw', ew, _, hcw⟩ := HRW.out
            simp only [Value.slice.injEq] at ew
            obtain ⟨rfl, -, -⟩ := ew
            obtain ⟨gw, ow, rfl, k0, k1⟩ := hcw j hjl
            obtain ⟨p, hp⟩ : ∃ t, (wl.getD j (0, 0)).1 = t := ⟨_, rfl⟩
            obtain ⟨q, hq⟩ : ∃ t, (wl.getD j (0, 0)).2 = t := ⟨_, rfl⟩
            rw [hp] at k0
            rw [hq] at k1
            have c0 := keepCell HBJ.out k0
            have c1 := keepCell HBJ.out k1
            have HMS : Hid (meas (wl.take (j + 1)) = meas (wl.take j) + (q - p)) := meas_take_succ (by rw [← hp, ← hq]) hjl
            have hbd : 0 ≤ meas (wl.take j) ∧ meas (wl.take j) ≤ 200 ∧ -4398046511104 ≤ p ∧ p ≤ 4398046511104 ∧ -4398046511104 ≤ q ∧ q ≤ 4398046511104 := HMB.out j hjl p q hp hq
            obtain ⟨ms, hms⟩ : ∃ m, meas (wl.take j) = m := ⟨_, rfl⟩
            rw [hms] at HMS hbd ⊢
            obtain ⟨d1, d2, d3, d4, d5, d6⟩ := hbd
            have hbQ : Below wr.heap.size wr (wr.alloc (.cells #[.int .i64 p, .int .i64 q] 46)) := (Below.refl _ _).alloc (Nat.le_refl _) _
            have HBQ := Lib.hid (keepBelow HBJ.out hbQ)
            clear hcw k0 k1 hp hq hms hbQ
            go_wp2
            go_roundw
            case rel => exact ⟨j + 1, by go_num, by omega, by rw [HMS.out], HBQ.out⟩
            case measure => simp [intOf]; omega
          · have hje : j = wl.length := by omega
            subst hje
            have hme : meas (wl.take wl.length) = x.1.wk := by rw [List.take_length]; exact HMW.out.1
            rw [hme]
            have e0 := ext_cell (keepCell HBJ.out HTZ.out.1)
            have e1 := ext_cell (keepCell HBJ.out HTZ.out.2)
            have e2 := ext_cell (keepCell HBJ.out HSZ.out.1)
            have e3 := ext_cell (keepCell HBJ.out HSZ.out.2)
            simp only [Nat.zero_add] at e2 e3
            have s1 : (k : Int) < (a.length : Int) := by have := HAL.out; have := HLTK.out; omega
            have g1 : (x.1.wk != x.1.wk) = false := by simp
            have g2 : decide (x.1.du < ty) = false := by have := HF.out.2; simp; omega
            have g3 : decide (tx < start) = false := by have := HF.out.1; simp; omega
            have HBE := Lib.hid (keepBelow HBN.out HBJ.out)
            clear hme
            go_wp2_with fail
            refine wp_region_ext (by kernel_rfl) (by kernel_rfl) ?_
            iterate 27 (go_big_quiet_step (fail))
            refine wpQuiet_nil ?_
            intro w7 hb7
            have HBF := Lib.hid (keepBelow HBE.out hb7)
            clear hb7 e0 e1 e2 e3
            go_wp2
            go_roundw
            case rel => exact ⟨k + 1, by go_num, by omega, HBF.out⟩
            case measure => simp [intOf]; omega
      case refine_1 =>
        intro ls a9 w9 i' hI hcl hi'
        rw [HIH.out] at hI
        obtain ⟨vw, u70, u71, u72, u73, u74, u75, u76, u77, u78, u79, u80, u81, u82, u13, u14, hsz, rfl, hB, f0, f1, f2, f3, f4, f5, f6, f7, f8, f9, f10, f11, f12, f13, f14, rwf⟩ := hI
        obtain ⟨hj, op, hop, hall⟩ := mem_ready.1 hi'
        have hlt' := (Array.getElem?_eq_some_iff.1 hop).1
        have hlt' : i' < 15 := hlt'
        have hsz' : (ls.setIfInBounds i' true).size = 15 := by rw [Array.size_setIfInBounds]; exact hsz
        rcases (show i' = 0 ∨ i' = 1 ∨ i' = 2 ∨ i' = 3 ∨ i' = 4 ∨ i' = 5 ∨ i' = 6 ∨ i' = 7 ∨ i' = 8 ∨ i' = 9 ∨ i' = 10 ∨ i' = 11 ∨ i' = 12 ∨ i' = 13 ∨ i' = 14 by omega) with rfl | rfl | rfl | rfl | rfl | rfl | rfl | rfl | rfl | rfl | rfl | rfl | rfl | rfl | rfl
        · simp at hop
          subst hop
          refine wpOp_of_list (i := 0) rfl ?_
          go_wp2
          show I _ _ _
          rw [HIH.out]
          exact ⟨vw, _, _, _, _, _, _, _, _, _, _, _, _, _, _, _, hsz', rfl, (hB), (fun _ => rfl), (gx f1), (gx f2), (gx f3), (gx f4), (gx f5), (gx f6), (gx f7), (gx f8), (gx f9), (gx f10), (gx f11), (gx f12), (gx f13), (gx f14), (gx rwf)⟩
        · simp at hop
          subst hop
          refine wpOp_of_list (i := 1) rfl ?_
          go_wp2
          show I _ _ _
          rw [HIH.out]
          exact ⟨vw, _, _, _, _, _, _, _, _, _, _, _, _, _, _, _, hsz', rfl, (hB), (gx f0), (fun _ => rfl), (gx f2), (gx f3), (gx f4), (gx f5), (gx f6), (gx f7), (gx f8), (gx f9), (gx f10), (gx f11), (gx f12), (gx f13), (gx f14), (gx rwf)⟩
        · simp at hop
          subst hop
          refine wpOp_of_list (i := 2) rfl ?_
          have e72 := f1.out (hall ⟨1, .data⟩ (by simp) rfl)
          subst e72
          have c9 := keepCell hB HT5.out.2.1
          go_wp2
          show I _ _ _
          rw [HIH.out]
          exact ⟨vw, _, _, _, _, _, _, _, _, _, _, _, _, _, _, _, hsz', rfl, (hB), (gx f0), (fun _ => rfl), (fun _ => rfl), (gx f3), (gx f4), (gx f5), (gx f6), (gx f7), (gx f8), (gx f9), (gx f10), (gx f11), (gx f12), (gx f13), (gx f14), (gx rwf)⟩
        · simp at hop
          subst hop
          refine wpOp_of_list (i := 3) rfl ?_
          have e71 := f0.out (hall ⟨0, .data⟩ (by simp) rfl)
          subst e71
          have e73 := f2.out (hall ⟨2, .data⟩ (by simp) rfl)
          subst e73
          have hl := HRO.out.2.2
          go_wp2
          show I _ _ _
          rw [HIH.out]
          exact ⟨vw, _, _, _, _, _, _, _, _, _, _, _, _, _, _, _, hsz', rfl, (hB), (fun _ => rfl), (gx f1), (fun _ => rfl), (fun _ => rfl), (gx f4), (gx f5), (gx f6), (gx f7), (gx f8), (gx f9), (gx f10), (gx f11), (gx f12), (gx f13), (gx f14), (gx rwf)⟩
        · simp at hop
          subst hop
          refine wpOp_of_list (i := 4) rfl ?_
          have e74 := f3.out (hall ⟨3, .data⟩ (by simp) rfl)
          subst e74
          obtain ⟨q0, q1, q2, q3, q4, q5, q6⟩ := HC7.out
          have k0 := keepCell hB q0
          have k1 := keepCell hB q1
          have k2 := keepCell hB q2
          have k3 := keepCell hB q3
          have k4 := keepCell hB q4
          have k5 := keepCell hB q5
          have k6 := keepCell hB q6
          go_wp2
          show I _ _ _
          rw [HIH.out]
          exact ⟨vw, _, _, _, _, _, _, _, _, _, _, _, _, _, _, _, hsz', rfl, (hB), (gx f0), (gx f1), (gx f2), (fun _ => rfl), (fun _ => rfl), (gx f5), (gx f6), (gx f7), (gx f8), (gx f9), (gx f10), (gx f11), (gx f12), (gx f13), (gx f14), (gx rwf)⟩
        · simp at hop
          subst hop
          refine wpOp_of_list (i := 5) rfl ?_
          go_wp2
          show I _ _ _
          rw [HIH.out]
          exact ⟨vw, _, _, _, _, _, _, _, _, _, _, _, _, _, _, _, hsz', rfl, (hB), (gx f0), (gx f1), (gx f2), (gx f3), (gx f4), (fun _ => rfl), (gx f6), (gx f7), (gx f8), (gx f9), (gx f10), (gx f11), (gx f12), (gx f13), (gx f14), (gx rwf)⟩
        · simp at hop
          subst hop
          refine wpOp_of_list (i := 6) rfl ?_
          go_wp2
          show I _ _ _
          rw [HIH.out]
          exact ⟨vw, _, _, _, _, _, _, _, _, _, _, _, _, _, _, _, hsz', rfl, (hB), (gx f0), (gx f1), (gx f2), (gx f3), (gx f4), (gx f5), (fun _ => rfl), (gx f7), (gx f8), (gx f9), (gx f10), (gx f11), (gx f12), (gx f13), (gx f14), (gx rwf)⟩
        · simp at hop
          subst hop
          refine wpOp_of_list (i := 7) rfl ?_
          have e76 := f5.out (hall ⟨5, .data⟩ (by simp) rfl)
          subst e76
          have e77 := f6.out (hall ⟨6, .data⟩ (by simp) rfl)
          subst e77
          have hl := HLTK.out
          have hl2 := HAL.out
          have hl3 : k < a.length := by omega
          clear hl2
          go_wp2
          show I _ _ _
          rw [HIH.out]
          exact ⟨vw, _, _, _, _, _, _, _, _, _, _, _, _, _, _, _, hsz', rfl, (hB), (gx f0), (gx f1), (gx f2), (gx f3), (gx f4), (fun _ => rfl), (fun _ => rfl), (fun _ => rfl), (gx f8), (gx f9), (gx f10), (gx f11), (gx f12), (gx f13), (gx f14), (gx rwf)⟩
        · simp at hop
          subst hop
          refine wpOp_of_list (i := 8) rfl ?_
          have e78 := f7.out (hall ⟨7, .data⟩ (by simp) rfl)
          subst e78
          have k0 := keepCell hB HSC2.out.1
          have k1 := keepCell hB HSC2.out.2
          rw [Nat.zero_add] at k0 k1
          go_wp2
          show I _ _ _
          rw [HIH.out]
          exact ⟨vw, _, _, _, _, _, _, _, _, _, _, _, _, _, _, _, hsz', rfl, (hB), (gx f0), (gx f1), (gx f2), (gx f3), (gx f4), (gx f5), (gx f6), (fun _ => rfl), (fun _ => rfl), (gx f9), (gx f10), (gx f11), (gx f12), (gx f13), (gx f14), (gx rwf)⟩
        · simp at hop
          subst hop
          refine wpOp_of_list (i := 9) rfl ?_
          have e75 := f4.out (hall ⟨4, .data⟩ (by simp) rfl)
          subst e75
          have e79 := f8.out (hall ⟨8, .data⟩ (by simp) rfl)
          subst e79
          have y9 := not_listed hj
          have y10 := hcl.off (i := 9) (j := 10) rfl y9 ⟨⟨9, .data⟩, by simp, rfl, rfl⟩
          have y11 := hcl.off (i := 10) (j := 11) rfl y10 ⟨⟨10, .data⟩, by simp, rfl, rfl⟩
          have y13 := hcl.off (i := 11) (j := 13) rfl y11 ⟨⟨11, .data⟩, by simp, rfl, rfl⟩
          have x9 := Lib.hid y9
          clear y9
          have x10 := Lib.hid y10
          clear y10
          have x11 := Lib.hid y11
          clear y11
          have x13 := Lib.hid y13
          clear y13
          go_wp2_with (go_at_call 28; refine (HWIN.out _ hB).mono ?_; rintro e9 w8 ⟨v8, rfl, hr8, hb8⟩)
          show I _ _ _
          rw [HIH.out]
          exact ⟨v8, _, _, _, _, _, _, _, _, _, _, _, _, _, _, _, hsz', rfl, (keepBelow hB hb8), (gx f0), (gx f1), (gx f2), (gx f3), (fun _ => rfl), (gx f5), (gx f6), (gx f7), (fun _ => rfl), (fun _ => rfl), (fun h => absurd (gd h) (by rw [x10.out]; exact Bool.false_ne_true)), (fun h => absurd (gd h) (by rw [x11.out]; exact Bool.false_ne_true)), (gx f12), (fun h => absurd (gd h) (by rw [x13.out]; exact Bool.false_ne_true)), (gx f14), (fun _ => hr8)⟩
        · simp at hop
          subst hop
          refine wpOp_of_list (i := 10) rfl ?_
          have e80 := f9.out (hall ⟨9, .data⟩ (by simp) rfl)
          subst e80
          go_wp2
          show I _ _ _
          rw [HIH.out]
          exact ⟨vw, _, _, _, _, _, _, _, _, _, _, _, _, _, _, _, hsz', rfl, (hB), (gx f0), (gx f1), (gx f2), (gx f3), (gx f4), (gx f5), (gx f6), (gx f7), (gx f8), (fun _ => rfl), (fun _ => rfl), (gx f11), (gx f12), (gx f13), (gx f14), (gx rwf)⟩
        · simp at hop
          subst hop
          refine wpOp_of_list (i := 11) rfl ?_
          have e70 := f10.out (hall ⟨10, .data⟩ (by simp) rfl)
          subst e70
          go_wp2
          show I _ _ _
          rw [HIH.out]
          exact ⟨vw, _, _, _, _, _, _, _, _, _, _, _, _, _, _, _, hsz', rfl, (hB), (gx f0), (gx f1), (gx f2), (gx f3), (gx f4), (gx f5), (gx f6), (gx f7), (gx f8), (gx f9), (fun _ => rfl), (fun _ => rfl), (gx f12), (gx f13), (gx f14), (gx rwf)⟩
        · simp at hop
          subst hop
          refine wpOp_of_list (i := 12) rfl ?_
          have e70 := f10.out (hall ⟨10, .data⟩ (by simp) rfl)
          subst e70
          go_wp2
          show I _ _ _
          rw [HIH.out]
          exact ⟨vw, _, _, _, _, _, _, _, _, _, _, _, _, _, _, _, hsz', rfl, (hB), (gx f0), (gx f1), (gx f2), (gx f3), (gx f4), (gx f5), (gx f6), (gx f7), (gx f8), (gx f9), (fun _ => rfl), (gx f11), (fun _ => rfl), (gx f13), (gx f14), (gx rwf)⟩
        · simp at hop
          subst hop
          refine wpOp_of_list (i := 13) rfl ?_
          have e81 := f11.out (hall ⟨11, .data⟩ (by simp) rfl)
          subst e81
          go_wp2
          show I _ _ _
          rw [HIH.out]
          exact ⟨_, _, _, _, _, _, _, _, _, _, _, _, _, _, _, _, hsz', rfl, (hB), (gx f0), (gx f1), (gx f2), (gx f3), (gx f4), (gx f5), (gx f6), (gx f7), (gx f8), (gx f9), (gx f10), (fun _ => rfl), (gx f12), (fun _ => rfl), (gx f14), (gx rwf)⟩
        · simp at hop
          subst hop
          refine wpOp_of_list (i := 14) rfl ?_
          have e82 := f12.out (hall ⟨12, .data⟩ (by simp) rfl)
          subst e82
          go_wp2
          show I _ _ _
          rw [HIH.out]
          exact ⟨vw, _, _, _, _, _, _, _, _, _, _, _, _, _, _, _, hsz', rfl, (hB), (gx f0), (gx f1), (gx f2), (gx f3), (gx f4), (gx f5), (gx f6), (gx f7), (gx f8), (gx f9), (gx f10), (gx f11), (fun _ => rfl), (gx f13), (fun _ => rfl), (gx rwf)⟩
    · have hkl : k = L.length := by omega
      subst hkl
      have HB7 := Lib.hid (keepBelow HB6.out HBr.out)
      go_wp2
      go_ret
      exact ⟨rfl, HB7.out⟩
end Go.Proofs.YtlbjfbpejomkmaaGreat
