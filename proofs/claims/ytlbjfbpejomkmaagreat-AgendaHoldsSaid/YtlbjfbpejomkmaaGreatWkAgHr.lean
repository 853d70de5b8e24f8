import Derived.Test.YtlbjfbpejomkmaaGreatWkAgQj
import Derived.Test.YtlbjfbpejomkmaaGreatWkAgCt
import Derived.Test.YtlbjfbpejomkmaaGreatWkAgQi
import Derived.Test.YtlbjfbpejomkmaaGreatWkRPa
import Derived.Test.YtlbjfbpejomkmaaGreatWkRfE
/- Agenda: the reference's Holds. -/
namespace Go.Proofs.YtlbjfbpejomkmaaGreat
open Go.RowKit Wk

theorem hs_bad {l : List Tk} {res : List St} {s : Int} {b : List Sp} {i : Nat} (h : ¬ hB l res s b i = true) : hB l res s b i = false := by simpa using h
theorem hs_no {l : List Tk} {res : List St} {s : Int} {b : List Sp} {i : Nat} (hi : i < l.length) (h : hB l res s b i = false) : holdsM l res s b = false := by
 unfold holdsM
 have : (List.range l.length).all (hB l res s b) = false := List.all_eq_false.2 ⟨i, List.mem_range.2 hi, by rw [h]; exact Bool.false_ne_true⟩
 rw [this, Bool.and_false]
theorem hs_yes {l : List Tk} {res : List St} {s : Int} {b : List Sp} (hl : b.length = l.length) (h : ∀ i, i < l.length → hB l res s b i = true) : holdsM l res s b = true := by
 unfold holdsM
 rw [decide_eq_true hl]
 exact List.all_eq_true.2 fun i hi => h i (List.mem_range.1 hi)
theorem hs_iff {l : List Tk} {res : List St} {s : Int} {b : List Sp} {i : Nat} : hB l res s b i = true ↔
  ivB (spAt b i) = true ∧ s ≤ (spAt b i).1 ∧ hasS (setOf l res i) (spAt b i).1 = true ∧ hasS (setOf l res i) ((spAt b i).2 - 1) = true ∧ potS (setOf l res i) (spAt b i).2 - potS (setOf l res i) (spAt b i).1 = (tkAt l i).wk ∧
  ((tkAt l i).af.any fun j => decide ((spAt b i).1 < (spAt b j.toNat).2)) = false ∧ ∀ k, k < i → clB l b i k = false := by
 rw [hB_iff]
 constructor
 ·rintro ⟨h1, h2, h3, h4, h5, h6, h7⟩
  refine ⟨h1, h2, h3, h4, h5, ?_, fun k hk => ?_⟩
  ·rw [List.any_eq_false]
   intro j hj
   have := h6 j hj
   simp
   omega
  ·unfold clB
   cases hr : ((tkAt l k).rs == (tkAt l i).rs) with
   | false => rfl
   | true =>
    have := h7 k hk (by simpa using hr)
    rcases this with h | h
    ·rw [decide_eq_false (p := (spAt b k).1 < (spAt b i).2) (by omega)]; rfl
    ·rw [decide_eq_false (p := (spAt b i).1 < (spAt b k).2) (by omega)]; simp
 ·rintro ⟨h1, h2, h3, h4, h5, h6, h7⟩
  refine ⟨h1, h2, h3, h4, h5, fun j hj => ?_, fun k hk hr => ?_⟩
  ·have := List.any_eq_false.1 h6 j hj
   simp at this
   omega
  ·have := h7 k hk
   unfold clB at this
   rw [hr] at this
   simp at this
   omega
theorem ext_rst {W : World} {s : St} {vl vr vv : Value} (h : RdSt W s vl vr vv) : ∀ x : Ext W, RdSt (extOf W x) s vl vr vv := fun x => keepSt x.2 h

set_option maxRecDepth 100000 in
set_option maxHeartbeats 16000000 in
theorem rholds_any (vl vR va : Value) (start : Int) (L : List Kv) (R : List Sw) (b : List Sp) (w : World) (hL : RdK w vl L) (hR : RdR w vR R) (hb : RdS w va b) (hV : vldM (tks L) (sts R) = true) (hlen : b.length = L.length) :
  Calls Tryz.prog 20 #[vl, vR, .int .i64 start, va] w fun e w' => e = .returned (.bool (holdsM (tks L) (sts R) start b)) ∧ Below w.heap.size w w' := by
 have HVP := Lib.hid (vld_parts hV)
 have HVV := Lib.hid (vld_V hV)
 have HIV := Lib.hid (fun x y W => valid10_any x y W)
 obtain ⟨r, hr⟩ : ∃ r, holdsM (tks L) (sts R) start b = r := ⟨_, rfl⟩
 rw [hr]
 have HRE := Lib.hid hr
 have HL := Lib.hid hL
 have HR := Lib.hid hR
 have HS := Lib.hid hb
 have HNE := Lib.hid hlen
 have HLN : Hid (L.length ≤ 24) := HVP.out.2.2.1
 obtain ⟨al, cl, rfl⟩ := hL.form
 obtain ⟨aR, cR, rfl⟩ := hR.form
 obtain ⟨aa, ca, rfl⟩ := hb.form
 clear hr hL hR hb hV hlen
 go_enter Tryz.func20, Tryz.ntmps20
 go_wp2_with fail
 go_loopw [9] (fun u wr => ∃ k : Nat, u = .int .i64 k ∧ k ≤ L.length ∧ Hid (∀ i, i < k → hB (tks L) (sts R) start b i = true) ∧ Hid (Below w.heap.size w wr)) (fun u _ => L.length - (intOf u).toNat)
 case atStart => exact ⟨0, rfl, Nat.zero_le _, fun i hi => by omega, Below.refl _ _⟩
 case round =>
  obtain ⟨k, rfl, hk, HZ, HBr⟩ := hrel
  have hk24 : (k : Int) ≤ 24 := by have := HLN.out; omega
  by_cases hlt : k < L.length
  ·have HLr := Lib.hid (HL.out.below HBr.out)
   obtain ⟨al', cl', ea, _, hc⟩ := HLr.out
   cases ea
   obtain ⟨hj, bl, ol, rfl, q0, q1, q2, q3, q4⟩ := hc k hlt
   obtain ⟨x, hx⟩ : ∃ x, L.getD k kv0 = x := ⟨_, rfl⟩
   rw [hx] at hj q0 q1 q2 q3 q4
   obtain ⟨ax, nx, ex⟩ := hj.form
   rw [ex] at q3 hj
   have HTI : Hid (tkAt (tks L) k = x.1) := by unfold Hid; rw [tks_at, hx]
   obtain ⟨ρ, hρ⟩ : ∃ ρ : Nat, reOf (tks L) k = ρ := ⟨_, rfl⟩
   have hrs := HVV.out.rs k (by rw [tks_length]; exact hlt)
   have HWK : Hid (0 ≤ x.1.wk) := by have := HVV.out.wk k (by rw [tks_length]; exact hlt); rw [HTI.out] at this; unfold Hid; omega
   have hρ1 : x.1.rs = (ρ : Int) := by
    rw [← hρ]
    unfold reOf
    rw [HTI.out]
    rw [HTI.out] at hrs
    omega
   have hρ2 : ρ < R.length := by rw [← hρ]; have := hrs.2; rwa [sts_length] at this
   have HRO := Lib.hid (And.intro hρ (And.intro hρ1 hρ2))
   have HJ := Lib.hid hj
   rw [hρ1] at q2
   have HRr := Lib.hid (HR.out.below HBr.out)
   obtain ⟨aR', cR', evR, _, hcR⟩ := HRr.out
   cases evR
   obtain ⟨hr7, br, orr, rfl, p0, p1, p2, p3, p4, p5, p6⟩ := hcR ρ HRO.out.2.2
   obtain ⟨z, hz⟩ : ∃ z, R.getD ρ sw0 = z := ⟨_, rfl⟩
   rw [hz] at hr7 p0 p1 p2 p3 p4 p5 p6
   obtain ⟨b1, m1, k1⟩ := hr7.1.form
   obtain ⟨b2, m2, k2⟩ := hr7.2.1.form
   obtain ⟨b3, m3, k3⟩ := hr7.2.2.form
   rw [k1] at p1
   rw [k2] at p3
   rw [k3] at p6
   rw [k1, k2, k3] at hr7
   have HSX : Hid (setOf (tks L) (sts R) k = z.1) := by unfold Hid setOf; rw [HRO.out.1, sts_at, hz]
   have HVZ : Hid (VB z.1 = true) := by have := HVP.out.1 ρ HRO.out.2.2; rwa [hz] at this
   have HHS := Lib.hid (fun y W h h1 h2 => has14_any z.1 (.slice b1 z.1.lf.2.length m1) (.slice b2 z.1.rt.2.length m2) (.slice b3 z.1.l.length m3) y W h (okS_of_VB HVZ.out) h1 h2)
   have HLT := Lib.hid hlt
   obtain ⟨O2, hO2⟩ : ∃ O2, (Obj.cells #[.int .i64 z.1.lf.1, .slice b1 z.1.lf.2.length m1, .int .i64 z.1.rt.1, .slice b2 z.1.rt.2.length m2, .int .i64 z.1.fr, .int .i64 z.1.to, .slice b3 z.1.l.length m3] 54) = O2 := ⟨_, rfl⟩
   have HS7 : Hid (Set7 (wr.alloc O2) wr.heap.size (.int .i64 z.1.lf.1) (.slice b1 z.1.lf.2.length m1) (.int .i64 z.1.rt.1) (.slice b2 z.1.rt.2.length m2) (.int .i64 z.1.fr) (.int .i64 z.1.to) (.slice b3 z.1.l.length m3)) := by
    rw [← hO2]
    exact set7_fresh _ _ _ _ _ _ _ _
   have hbY : Below wr.heap.size wr (wr.alloc O2) := (Below.refl _ _).alloc (Nat.le_refl _) _
   have HO2 := Lib.hid hO2
   have s1 : (ρ : Int) < (R.length : Int) := by omega
   have HQ0 := Lib.hid (And.intro q1 (And.intro q2 q3))
   have HR70 := Lib.hid hr7
   clear hc hx hj ex hρ hρ1 hρ2 hrs hO2 hcR hz k1 k2 k3 hr7 q0 q1 q3 q4
   go_upto_region 5 with fail
   first | rw [HO2.out] | skip
   clear HO2 q2 p0 p1 p2 p3 p4 p5 p6 s1
   obtain ⟨tb, htb⟩ : ∃ tb, wr.heap.size = tb := ⟨_, rfl⟩
   rw [htb] at HS7 ⊢
   have HBY0 := Lib.hid hbY
   clear hbY
   generalize wr.alloc O2 = Y at *
   have HR7 := Lib.hid (keepSt HBY0.out HR70.out)
   have HQ : Hid (Y.cell? ⟨bl, ol + k * 5 + 1, none⟩ = some (.int .i64 x.1.wk) ∧ Y.cell? ⟨bl, ol + k * 5 + 2, none⟩ = some (.int .i64 (ρ : Nat)) ∧ Y.cell? ⟨bl, ol + k * 5 + 3, none⟩ = some (.slice ax x.1.af.length nx)) := ⟨keepCell HBY0.out HQ0.out.1, keepCell HBY0.out HQ0.out.2.1, keepCell HBY0.out HQ0.out.2.2⟩
   have HJY := Lib.hid (HJ.out.below HBY0.out)
   have HSY := Lib.hid (keepRd HBY0.out (keepRd HBr.out HS.out))
   have HLY := Lib.hid (HLr.out.below HBY0.out)
   have HBY := Lib.hid (Below.refl Y.heap.size Y)
   have HBW := Lib.hid (keepBelow HBr.out HBY0.out)
   obtain ⟨as', cs', evs, _, hcs⟩ := HSY.out
   cases evs
   obtain ⟨ga, oa, rfl, sx, sy⟩ := hcs k (by rw [HNE.out]; exact hlt)
   obtain ⟨tx, htx⟩ : ∃ t, (b.getD k (0, 0)).1 = t := ⟨_, rfl⟩
   obtain ⟨ty, hty⟩ : ∃ t, (b.getD k (0, 0)).2 = t := ⟨_, rfl⟩
   rw [htx] at sx
   rw [hty] at sy
   have HSP : Hid (spAt b k = (tx, ty)) := by unfold Hid spAt; rw [← htx, ← hty]
   have HSC := Lib.hid (And.intro sx sy)
   have HCS := Lib.hid hcs
   clear hcs sx sy htx hty htb hlt
   have A0 := ext_cell HS7.out.1.1
   have A1 := ext_cell HS7.out.1.2.1
   have A2 := ext_cell HS7.out.1.2.2.1
   have A3 := ext_cell HS7.out.1.2.2.2.1
   have A4 := ext_cell HS7.out.1.2.2.2.2.1
   have A5 := ext_cell HS7.out.1.2.2.2.2.2.1
   have A6 := ext_cell HS7.out.1.2.2.2.2.2.2
   have e1 := ext_cell HSC.out.1
   have e2 := ext_cell HSC.out.2
   have e3 := ext_cell HQ.out.1
   have s1 : (k : Int) < (b.length : Int) := by have := HNE.out; have := HLT.out; omega
   have s2 : (k : Int) < (L.length : Int) := by have := HLT.out; omega
   obtain ⟨iv, hiv⟩ : ∃ v, ivB (tx, ty) = v := ⟨_, rfl⟩
   cases iv with
   | false =>
    have HIVF := Lib.hid hiv
    have hr : r = false := by rw [← HRE.out]; exact hs_no (by rw [tks_length]; exact HLT.out) (hs_bad fun h => by
     have h1 := hs_iff.1 h
     rw [HSP.out, HSX.out, HTI.out] at h1
     rw [HIVF.out] at h1; cases h1.1)
    subst hr
    go_wp2_with fail
    refine wp_region_ext (by kernel_rfl) (by kernel_rfl) ?_
    iterate 55 (go_big_quiet_step ((first | (go_at_call 50; refine calls_ext (HIV.out _ _ _)) | (go_at_call 51; refine calls_ext (HHS.out _ _ (ext_rst HR7.out _) (by omega) (by omega))) | (go_at_call 52; refine calls_ext (HCN.out _ (ext_rst HR7.out _))))))
    refine wpQuiet_nil ?_
    intro w5 hb5
    have HB5 := Lib.hid (keepBelow HBY.out hb5)
    clear hb5 A0 A1 A2 A3 A4 A5 A6 e1 e2 e3
    go_wp2
    go_ret
    exact ⟨rfl, keepBelow HBW.out HB5.out⟩
   | true =>
   obtain ⟨hv1, hv2, hv3⟩ := (ivB_iff (tx, ty)).1 hiv
   have hv1 : -4398046511104 ≤ tx := hv1
   have hv2 : tx < ty := hv2
   have hv3 : ty ≤ 4398046511104 := hv3
   by_cases hst : tx < start
   ·have g1 : decide (tx < start) = true := by simpa using hst
    have HST := Lib.hid hst
    clear hst
    have hr : r = false := by rw [← HRE.out]; exact hs_no (by rw [tks_length]; exact HLT.out) (hs_bad fun h => by
     have h1 := hs_iff.1 h
     rw [HSP.out, HSX.out, HTI.out] at h1
     have h2 : start ≤ tx := h1.2.1; have := HST.out; omega)
    subst hr
    go_wp2_with fail
    refine wp_region_ext (by kernel_rfl) (by kernel_rfl) ?_
    iterate 55 (go_big_quiet_step ((first | (go_at_call 50; refine calls_ext (HIV.out _ _ _)) | (go_at_call 51; refine calls_ext (HHS.out _ _ (ext_rst HR7.out _) (by omega) (by omega))) | (go_at_call 52; refine calls_ext (HCN.out _ (ext_rst HR7.out _))))))
    refine wpQuiet_nil ?_
    intro w5 hb5
    have HB5 := Lib.hid (keepBelow HBY.out hb5)
    clear hb5 A0 A1 A2 A3 A4 A5 A6 e1 e2 e3
    go_wp2
    go_ret
    exact ⟨rfl, keepBelow HBW.out HB5.out⟩
   have g1 : decide (tx < start) = false := by simpa using hst
   have HST : Hid (start ≤ tx) := by unfold Hid; omega
   clear hst
   obtain ⟨ha, hha⟩ : ∃ v, hasS z.1 tx = v := ⟨_, rfl⟩
   cases ha with
   | false =>
    have HH1 := Lib.hid hha
    have hr : r = false := by rw [← HRE.out]; exact hs_no (by rw [tks_length]; exact HLT.out) (hs_bad fun h => by
     have h1 := hs_iff.1 h
     rw [HSP.out, HSX.out, HTI.out] at h1
     rw [HH1.out] at h1; cases h1.2.2.1)
    subst hr
    go_wp2_with fail
    refine wp_region_ext (by kernel_rfl) (by kernel_rfl) ?_
    iterate 55 (go_big_quiet_step ((first | (go_at_call 50; refine calls_ext (HIV.out _ _ _)) | (go_at_call 51; refine calls_ext (HHS.out _ _ (ext_rst HR7.out _) (by omega) (by omega))) | (go_at_call 52; refine calls_ext (HCN.out _ (ext_rst HR7.out _))))))
    refine wpQuiet_nil ?_
    intro w5 hb5
    have HB5 := Lib.hid (keepBelow HBY.out hb5)
    clear hb5 A0 A1 A2 A3 A4 A5 A6 e1 e2 e3
    go_wp2
    go_ret
    exact ⟨rfl, keepBelow HBW.out HB5.out⟩
   | true =>
   obtain ⟨hc, hhc⟩ : ∃ v, hasS z.1 (ty - 1) = v := ⟨_, rfl⟩
   cases hc with
   | false =>
    have HH2 := Lib.hid hhc
    have hr : r = false := by rw [← HRE.out]; exact hs_no (by rw [tks_length]; exact HLT.out) (hs_bad fun h => by
     have h1 := hs_iff.1 h
     rw [HSP.out, HSX.out, HTI.out] at h1
     have h2 := h1.2.2.2.1; have h3 := HH2.out; rw [show (tx, ty).2 - 1 = ty - 1 from rfl] at h2; rw [h2] at h3; cases h3)
    subst hr
    go_wp2_with fail
    refine wp_region_ext (by kernel_rfl) (by kernel_rfl) ?_
    iterate 55 (go_big_quiet_step ((first | (go_at_call 50; refine calls_ext (HIV.out _ _ _)) | (go_at_call 51; refine calls_ext (HHS.out _ _ (ext_rst HR7.out _) (by omega) (by omega))) | (go_at_call 52; refine calls_ext (HCN.out _ (ext_rst HR7.out _))))))
    refine wpQuiet_nil ?_
    intro w5 hb5
    have HB5 := Lib.hid (keepBelow HBY.out hb5)
    clear hb5 A0 A1 A2 A3 A4 A5 A6 e1 e2 e3
    go_wp2
    go_ret
    exact ⟨rfl, keepBelow HBW.out HB5.out⟩
   | true =>
   have HIVT := Lib.hid (And.intro hiv (And.intro hha hhc))
   obtain ⟨n, hn, hcn⟩ := count48_val z.1 (.slice b1 z.1.lf.2.length m1) (.slice b2 z.1.rt.2.length m2) (.slice b3 z.1.l.length m3) tx ty x.1.wk HVZ.out hv1 (by omega) hv3 HWK.out
   have HCN := Lib.hid hcn
   have HN := Lib.hid hn
   clear hcn hn
   by_cases hnw : ¬ n = x.1.wk
   ·have g4 : (n != x.1.wk) = true := by simpa using hnw
    have HNW : Hid (¬ potS z.1 ty - potS z.1 tx = x.1.wk) := fun h => hnw (HN.out.2 h)
    clear hnw
    have hr : r = false := by rw [← HRE.out]; exact hs_no (by rw [tks_length]; exact HLT.out) (hs_bad fun h => by
     have h1 := hs_iff.1 h
     rw [HSP.out, HSX.out, HTI.out] at h1
     exact HNW.out h1.2.2.2.2.1)
    subst hr
    go_wp2_with fail
    refine wp_region_ext (by kernel_rfl) (by kernel_rfl) ?_
    iterate 55 (go_big_quiet_step ((first | (go_at_call 50; refine calls_ext (HIV.out _ _ _)) | (go_at_call 51; refine calls_ext (HHS.out _ _ (ext_rst HR7.out _) (by omega) (by omega))) | (go_at_call 52; refine calls_ext (HCN.out _ (ext_rst HR7.out _))))))
    refine wpQuiet_nil ?_
    intro w5 hb5
    have HB5 := Lib.hid (keepBelow HBY.out hb5)
    clear hb5 A0 A1 A2 A3 A4 A5 A6 e1 e2 e3
    go_wp2
    go_ret
    exact ⟨rfl, keepBelow HBW.out HB5.out⟩
   have hnw : n = x.1.wk := Decidable.not_not.1 hnw
   have g4 : (n != x.1.wk) = false := by simpa using hnw
   have HNW : Hid (potS z.1 ty - potS z.1 tx = x.1.wk) := HN.out.1 hnw
   clear hnw
   go_wp2_with fail
   refine wp_region_ext (by kernel_rfl) (by kernel_rfl) ?_
   iterate 55 (go_big_quiet_step ((first | (go_at_call 50; refine calls_ext (HIV.out _ _ _)) | (go_at_call 51; refine calls_ext (HHS.out _ _ (ext_rst HR7.out _) (by omega) (by omega))) | (go_at_call 52; refine calls_ext (HCN.out _ (ext_rst HR7.out _))))))
   refine wpQuiet_nil ?_
   intro w5 hb5
   have HB5 := Lib.hid (keepBelow HBY.out hb5)
   clear hb5 A0 A1 A2 A3 A4 A5 A6 e1 e2 e3
   clear g1 g4 hiv hha hhc s1 s2
   have HV3 := Lib.hid (And.intro hv1 (And.intro hv2 hv3))
   clear hv1 hv2 hv3
   generalize w5 = V at *
   go_wp2_with fail
   go_loopw [11] (fun u wr' => ∃ j : Nat, u = .int .i64 j ∧ j ≤ x.1.af.length ∧ Hid (∀ q, q < j → decide (tx < (spAt b (x.1.af.getD q 0).toNat).2) = false) ∧ Hid (Below V.heap.size V wr')) (fun u _ => x.1.af.length - (intOf u).toNat)
   case atStart => exact ⟨0, rfl, Nat.zero_le _, fun q hq => by omega, Below.refl _ _⟩
   case round =>
    obtain ⟨j, rfl, hjk, HZJ, HBJ⟩ := hrel
    have HBV := Lib.hid (keepBelow HB5.out HBJ.out)
    have hl24 := HLN.out
    have q3 := keepCell HBV.out HQ.out.2.2
    by_cases hjl : j < x.1.af.length
    ·obtain ⟨a8, c8, e8, _, h8⟩ := HJY.out
     simp only [Value.slice.injEq] at e8
     obtain ⟨rfl, -, -⟩ := e8
     obtain ⟨g8, o8, rfl, hc8⟩ := h8 j hjl
     have hmem := HVV.out.af k (by rw [tks_length]; exact HLT.out) (x.1.af.getD j 0) (by rw [HTI.out, List.getD_eq_getElem?_getD, List.getElem?_eq_getElem hjl]; exact List.getElem_mem hjl)
     obtain ⟨m, hm⟩ : ∃ m : Nat, x.1.af.getD j 0 = (m : Int) := ⟨(x.1.af.getD j 0).toNat, by omega⟩
     have hmb : m < b.length := by have := HNE.out; have := HLT.out; rw [hm] at hmem; omega
     rw [hm] at hc8
     obtain ⟨g', o', e', k0, k1⟩ := HCS.out m hmb
     cases e'
     obtain ⟨uy, huy⟩ : ∃ t, (b.getD m (0, 0)).2 = t := ⟨_, rfl⟩
     rw [huy] at k1
     have HAF : Hid ((spAt b (x.1.af.getD j 0).toNat).2 = uy) := by unfold Hid spAt; rw [hm]; exact huy
     have e1 := ext_cell q3
     have e2 := ext_cell (keepCell HBV.out hc8)
     have e3 := ext_cell (keepCell HBV.out k1)
     have e4 := ext_cell (keepCell HBV.out HSC.out.1)
     have s1 : (k : Int) < (b.length : Int) := by have := HNE.out; have := HLT.out; omega
     have s2 : (k : Int) < (L.length : Int) := by have := HLT.out; omega
     have s3 : (j : Int) < (x.1.af.length : Int) := by omega
     have s4 : (m : Int) < (b.length : Int) := by omega
     clear k0 k1 hc8 h8 hmem hm huy
     by_cases hc1 : tx < uy
     ·have g1 : decide (tx < uy) = true := by simpa using hc1
      have hr : r = false := by rw [← HRE.out]; exact hs_no (by rw [tks_length]; exact HLT.out) (hs_bad fun h => by
       have h1 := (hs_iff.1 h).2.2.2.2.2.1
       rw [HSP.out, HTI.out] at h1
       have h2 := List.any_eq_false.1 h1 (x.1.af.getD j 0) (by rw [List.getD_eq_getElem?_getD, List.getElem?_eq_getElem hjl]; exact List.getElem_mem hjl)
       rw [HAF.out] at h2
       exact h2 g1)
      subst hr
      clear hc1
      go_wp2_with fail
      refine wp_region_ext (by kernel_rfl) (by kernel_rfl) ?_
      iterate 18 (go_big_quiet_step (fail))
      refine wpQuiet_nil ?_
      intro w7 hb7
      have HBE := Lib.hid (keepBelow HBV.out hb7)
      go_wp2
      go_ret
      exact ⟨rfl, keepBelow HBW.out HBE.out⟩
     ·have g1 : decide (tx < uy) = false := by simpa using hc1
      have HG1 := Lib.hid g1
      clear hc1
      go_wp2_with fail
      refine wp_region_ext (by kernel_rfl) (by kernel_rfl) ?_
      iterate 18 (go_big_quiet_step (fail))
      refine wpQuiet_nil ?_
      intro w7 hb7
      have HBN := Lib.hid (keepBelow HBJ.out hb7)
      clear hb7 e1 e2 e3 e4
      go_wp2
      go_roundw
      case rel =>
       refine ⟨j + 1, by go_num, by omega, fun q hq => ?_, HBN.out⟩
       rcases Nat.lt_succ_iff_lt_or_eq.1 hq with h | rfl
       ·exact HZJ.out q h
       ·rw [HAF.out]; exact HG1.out
      case measure => simp [intOf]; omega
    ·have hje : j = x.1.af.length := by omega
     subst hje
     have s2 : (k : Int) < (L.length : Int) := by have := HLT.out; omega
     have HAN : Hid ((x.1.af.any fun j => decide (tx < (spAt b j.toNat).2)) = false) := by
      refine List.any_eq_false.2 fun j hj => ?_
      obtain ⟨q, hq, rfl⟩ := List.mem_iff_getElem.1 hj
      have := HZJ.out q hq
      rw [List.getD_eq_getElem?_getD, List.getElem?_eq_getElem hq] at this
      intro h9
      rw [Option.getD_some] at this
      rw [this] at h9
      cases h9
     go_wp2_with fail
     clear q3
     generalize wr = V2 at *
     go_loopw [12] (fun u wr' => ∃ j : Nat, u = .int .i64 j ∧ j ≤ k ∧ Hid (∀ q, q < j → clB (tks L) b k q = false) ∧ Hid (Below V2.heap.size V2 wr')) (fun u _ => k - (intOf u).toNat)
     case atStart => exact ⟨0, rfl, Nat.zero_le _, fun q hq => by omega, Below.refl _ _⟩
     case round =>
      obtain ⟨j, rfl, hjk, HZ2, HBI⟩ := hrel
      have HBU := Lib.hid (keepBelow HBV.out HBI.out)
      have hk24 : (k : Int) ≤ 1152921504606846976 := by have := HLN.out; have := HLT.out; omega
      by_cases hjl : j < k
      ·have hjL : j < L.length := by have := HLT.out; omega
       obtain ⟨al2, cl2, ea2, _, hc2⟩ := (HLY.out.below HBU.out)
       cases ea2
       obtain ⟨hj2, bl2, ol2, eb2, q0, q1, q2, q3, q4⟩ := hc2 j hjL
       cases eb2
       obtain ⟨y, hy⟩ : ∃ y, L.getD j kv0 = y := ⟨_, rfl⟩
       rw [hy] at hj2 q0 q1 q2 q3 q4
       have HTJ : Hid (tkAt (tks L) j = y.1) := by unfold Hid; rw [tks_at, hy]
       have hjb : j < b.length := by have := HNE.out; omega
       obtain ⟨g', o', e', k0, k1⟩ := HCS.out j hjb
       cases e'
       obtain ⟨ux, hux⟩ : ∃ t, (b.getD j (0, 0)).1 = t := ⟨_, rfl⟩
       obtain ⟨uy, huy⟩ : ∃ t, (b.getD j (0, 0)).2 = t := ⟨_, rfl⟩
       rw [hux] at k0
       rw [huy] at k1
       have HCB : Hid (clB (tks L) b k j = ((y.1.rs == (ρ : Int)) && (decide (ux < ty) && decide (tx < uy)))) := by
        unfold Hid clB
        rw [HTJ.out, HTI.out, HSP.out, HRO.out.2.1]
        unfold spAt
        rw [hux, huy]
       have e0 := ext_cell q2
       have e1 := ext_cell (keepCell HBU.out HQ.out.2.1)
       have e3 := ext_cell (keepCell HBU.out k0)
       have e4 := ext_cell (keepCell HBU.out k1)
       have e5 := ext_cell (keepCell HBU.out HSC.out.1)
       have e6 := ext_cell (keepCell HBU.out HSC.out.2)
       have s1 : (j : Int) < (b.length : Int) := by omega
       have s3 : (j : Int) < (L.length : Int) := by omega
       have s4 : (k : Int) < (b.length : Int) := by have := HNE.out; have := HLT.out; omega
       clear hc2 hj2 hy hux huy q0 q1 q2 q3 q4 k0 k1
       by_cases hc1 : y.1.rs = (ρ : Int)
       ·have g1 : (y.1.rs == (ρ : Int)) = true := by simpa using hc1
        by_cases hc2 : ux < ty
        ·have g2 : decide (ux < ty) = true := by simpa using hc2
         by_cases hc3 : tx < uy
         ·have g3 : decide (tx < uy) = true := by simpa using hc3
          have HCBB : Hid (clB (tks L) b k j = true) := by unfold Hid; rw [HCB.out, g1, g2, g3]; rfl
          have hr : r = false := by rw [← HRE.out]; exact hs_no (by rw [tks_length]; exact HLT.out) (hs_bad fun h => by have h1 := (hs_iff.1 h).2.2.2.2.2.2 j hjl; rw [HCBB.out] at h1; cases h1)
          subst hr
          clear hc1 hc2 hc3
          go_wp2_with fail
          refine wp_region_ext (by kernel_rfl) (by kernel_rfl) ?_
          iterate 37 (go_big_quiet_step (fail))
          refine wpQuiet_nil ?_
          intro w7 hb7
          have HBE := Lib.hid (keepBelow HBU.out hb7)
          go_wp2
          go_ret
          exact ⟨rfl, keepBelow HBW.out HBE.out⟩
         ·have g3 : decide (tx < uy) = false := by simpa using hc3
          have HCBB : Hid (clB (tks L) b k j = false) := by unfold Hid; rw [HCB.out, g1, g2, g3]; rfl
          clear hc1 hc2 hc3
          go_wp2_with fail
          refine wp_region_ext (by kernel_rfl) (by kernel_rfl) ?_
          iterate 37 (go_big_quiet_step (fail))
          refine wpQuiet_nil ?_
          intro w7 hb7
          have HBN := Lib.hid (keepBelow HBI.out hb7)
          clear hb7 e0 e1 e3 e4 e5 e6
          go_wp2
          go_roundw
          case rel =>
           refine ⟨j + 1, by go_num, by omega, fun q hq => ?_, HBN.out⟩
           rcases Nat.lt_succ_iff_lt_or_eq.1 hq with h | rfl
           ·exact HZ2.out q h
           ·exact HCBB.out
          case measure => simp [intOf]; omega
        ·have g2 : decide (ux < ty) = false := by simpa using hc2
         have HCBB : Hid (clB (tks L) b k j = false) := by unfold Hid; rw [HCB.out, g1, g2]; rfl
         clear hc1 hc2
         go_wp2_with fail
         refine wp_region_ext (by kernel_rfl) (by kernel_rfl) ?_
         iterate 37 (go_big_quiet_step (fail))
         refine wpQuiet_nil ?_
         intro w7 hb7
         have HBN := Lib.hid (keepBelow HBI.out hb7)
         clear hb7 e0 e1 e3 e4 e5 e6
         go_wp2
         go_roundw
         case rel =>
          refine ⟨j + 1, by go_num, by omega, fun q hq => ?_, HBN.out⟩
          rcases Nat.lt_succ_iff_lt_or_eq.1 hq with h | rfl
          ·exact HZ2.out q h
          ·exact HCBB.out
         case measure => simp [intOf]; omega
       ·have g1 : (y.1.rs == (ρ : Int)) = false := by simpa using hc1
        have HCBB : Hid (clB (tks L) b k j = false) := by unfold Hid; rw [HCB.out, g1]; rfl
        clear hc1
        go_wp2_with fail
        refine wp_region_ext (by kernel_rfl) (by kernel_rfl) ?_
        iterate 37 (go_big_quiet_step (fail))
        refine wpQuiet_nil ?_
        intro w7 hb7
        have HBN := Lib.hid (keepBelow HBI.out hb7)
        clear hb7 e0 e1 e3 e4 e5 e6
        go_wp2
        go_roundw
        case rel =>
         refine ⟨j + 1, by go_num, by omega, fun q hq => ?_, HBN.out⟩
         rcases Nat.lt_succ_iff_lt_or_eq.1 hq with h | rfl
         ·exact HZ2.out q h
         ·exact HCBB.out
        case measure => simp [intOf]; omega
      ·have hje : j = k := by omega
       subst hje
       have HOK : Hid (hB (tks L) (sts R) start b j = true) := by
        refine hs_iff.2 ?_
        rw [HSP.out, HSX.out, HTI.out]
        exact ⟨HIVT.out.1, HST.out, HIVT.out.2.1, HIVT.out.2.2, HNW.out, HAN.out, HZ2.out⟩
       have HBN := Lib.hid (keepBelow HBY.out HBU.out)
       have HLT2 := HLT.out
       go_wp2
       go_roundw
       case rel =>
        refine ⟨j + 1, by go_num, by omega, fun q hq => ?_, keepBelow HBr.out (keepBelow HBY0.out HBU.out)⟩
        rcases Nat.lt_succ_iff_lt_or_eq.1 hq with h | rfl
        ·exact HZ.out q h
        ·exact HOK.out
       case measure => simp [intOf]; omega
  ·have hkl : k = L.length := by omega
   subst hkl
   have hr : r = true := by rw [← HRE.out]; exact hs_yes (by rw [tks_length]; exact HNE.out) (fun i hi => HZ.out i (by rwa [tks_length] at hi))
   subst hr
   go_wp2
   go_ret
   exact ⟨rfl, HBr.out⟩
end Go.Proofs.YtlbjfbpejomkmaaGreat
