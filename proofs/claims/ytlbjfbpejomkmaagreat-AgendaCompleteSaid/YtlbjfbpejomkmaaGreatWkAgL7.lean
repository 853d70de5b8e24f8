import Derived.Test.YtlbjfbpejomkmaaGreatWkAgCl
import Derived.Test.YtlbjfbpejomkmaaGreatWkAgQm
import Derived.Test.YtlbjfbpejomkmaaGreatWkAgQj
import Derived.Test.YtlbjfbpejomkmaaGreatWkAg7
import Derived.Test.YtlbjfbpejomkmaaGreatWkAgQg
/- The law AgendaComplete. -/
namespace Go.Proofs.YtlbjfbpejomkmaaGreat
open Go.RowKit Wk

def YesPost (w : World) (e : Ending) (w' : World) : Prop := ∃ p n c z, e = .returned (.tuple #[.slice p n c, .int .i64 z]) ∧ (z = 0 ∨ z = 18) ∧ Below w.heap.size w w'
theorem sc_yes {l : List Tk} {res : List St} {start most : Int} {b : List Sp} (hv : vldM l res = true) (hs : lineB start = true) (h0 : 0 ≤ most) (h1 : most ≤ 1000000) (hb : SchP l res start b) {w w' : World} {e : Ending} (h : AdPost l res start most w e w') : YesPost w e w' := by
 obtain ⟨hbw, h, -⟩ := h
 have h := h (by unfold schB; rw [hv, hs, decide_eq_true h0, decide_eq_true h1]; rfl)
 cases hf : findM l res start most with
 | ok a =>
  rw [hf] at h
  obtain ⟨g, rfl, -, -, -⟩ := h
  exact ⟨_, _, _, _, rfl, Or.inl rfl, hbw⟩
 | out =>
  rw [hf] at h
  have h : e = _ := h
  subst h
  exact ⟨_, _, _, _, rfl, Or.inr rfl, hbw⟩
 | no lf => exact absurd hf (find_no (vld_V hv) hb)
def NonePost (w : World) (e : Ending) (w' : World) : Prop := ∃ p n c z, e = .returned (.tuple #[.slice p n c, .int .i64 z]) ∧ (z = 7 ∨ z = 18) ∧ Below w.heap.size w w'
theorem cf_yes {l : List Tk} {res : List St} {start : Int} {b : List Sp} (hv : vldM l res = true) (hs : lineB start = true) (hb : SchP l res start b) {w w' : World} {e : Ending} (h : CfPost (cfA l res start) w e w') : NonePost w e w' := by
 obtain ⟨v, rfl, ho, hbw⟩ := h
 have hb2 : (vldM l res && lineB start) = true := by rw [hv, hs]; rfl
 obtain ⟨a, c, rfl, -⟩ := ho.form
 refine ⟨_, _, _, _, rfl, ?_, hbw⟩
 cases hf : findM l res start 1000 with
 | ok a => rw [cfA_ok hb2 hf]; exact Or.inl rfl
 | out => rw [cfA_out hb2 hf]; exact Or.inr rfl
 | no lf => exact absurd hf (find_no (vld_V hv) hb)
def duK (more : Int) (x : Kv) : Kv := ({ x.1 with du := min 4398046511104 (x.1.du + more) }, x.2)
theorem tks_later (L : List Kv) (more : Int) : tks (L.map (duK more)) = laterL (tks L) more := by
 unfold tks laterL
 rw [List.map_map, List.map_map]
 rfl
theorem duK_at (L : List Kv) (more : Int) {i : Nat} (hi : i < L.length) : (L.map (duK more)).getD i kv0 = duK more (L.getD i kv0) := by
 rw [List.getD_eq_getElem?_getD, List.getElem?_map, List.getElem?_eq_getElem hi, List.getD_eq_getElem?_getD, List.getElem?_eq_getElem hi]
 rfl

set_option maxRecDepth 100000 in
set_option maxHeartbeats 16000000 in
theorem law_AgendaComplete (vl vR : Value) (start : Int) (va : Value) (more : Int) (L : List Kv) (R : List Sw) (b : List Sp) (w : World) (hL : RdK w vl L) (hR : RdR w vR R) (hS : RdS w va b) (hcap : CapK vl) (hm0 : 0 ≤ more) (hm1 : more ≤ 255) :
  Calls Tryz.prog 11 #[vl, vR, .int .i64 start, va, .int .u8 more] w fun e w' => e = .returned (.bool true) ∧ Below w.heap.size w w' := by
 have HA := Lib.hid (fun W => awake48_any W)
 have HG := Lib.hid (fun W h h' => great_wk vl vR L R W h h')
 have HHO := Lib.hid (fun W h1 h2 h3 => aholds_any vl vR va start L R b W h1 h2 h3 hcap)
 have HLT := Lib.hid (fun W h h' hl => late_any vl va L b W h h' hl)
 have HSC := Lib.hid (fun v' L' W h h' => sched_any v' vR start 500 L' R W h h')
 have HCF := Lib.hid (fun W h h' => conflict_any vl vR start L R W h h')
 have HCL := Lib.hid (fun W h hl => cloneK_any vl L W h hl)
 have HL := Lib.hid hL
 have HR := Lib.hid hR
 have HS := Lib.hid hS
 have HMM := Lib.hid (And.intro hm0 hm1)
 obtain ⟨al, cl, rfl⟩ := hL.form
 obtain ⟨aR, cR, rfl⟩ := hR.form
 obtain ⟨aa, ca, rfl⟩ := hS.form
 clear hL hR hS hcap hm0 hm1
 go_enter Tryz.func11, Tryz.ntmps11
 go_wp2_with fail
 refine (HA.out _).mono ?_
 rintro e w1 ⟨rfl, hb1⟩
 have HL1 := Lib.hid (HL.out.below hb1)
 have HR1 := Lib.hid (HR.out.below hb1)
 have HS1 := Lib.hid (keepRd hb1 HS.out)
 have HB1 := Lib.hid hb1
 clear hb1
 go_wp2_with fail
 refine (HG.out _ HL1.out HR1.out).mono ?_
 rintro e w2 ⟨g, rfl, hgr, hb2⟩
 have HL2 := Lib.hid (HL1.out.below hb2)
 have HR2 := Lib.hid (HR1.out.below hb2)
 have HS2 := Lib.hid (keepRd hb2 HS1.out)
 have HB2 := Lib.hid (keepBelow HB1.out hb2)
 clear hb2 hgr
 cases g with
 | true =>
  go_wp2
  go_ret
  exact ⟨rfl, HB2.out⟩
 | false =>
 go_wp2_with fail
 refine (HHO.out _ HL2.out HR2.out HS2.out).mono ?_
 rintro e w3 ⟨rfl, hb3⟩
 have HL3 := Lib.hid (HL2.out.below hb3)
 have HR3 := Lib.hid (HR2.out.below hb3)
 have HS3 := Lib.hid (keepRd hb3 HS2.out)
 have HB3 := Lib.hid (keepBelow HB2.out hb3)
 clear hb3
 obtain ⟨ho, hho⟩ : ∃ v, HoM (tks L) (sts R) start b = v := ⟨_, rfl⟩
 rw [hho]
 have HHH := Lib.hid hho
 clear hho
 cases ho with
 | false =>
  go_wp2
  go_ret
  exact ⟨rfl, HB3.out⟩
 | true =>
 have hh := HHH.out
 unfold HoM at hh
 rw [Bool.and_eq_true, Bool.and_eq_true] at hh
 have HV := Lib.hid hh
 have HN : Hid (L.length ≤ 24) := (vld_parts hh.1.1).2.2.1
 clear hh
 go_wp2_with fail
 refine (HLT.out _ HL3.out HS3.out (by have := HN.out; omega)).mono ?_
 rintro e w4 ⟨v4, rfl, ho4, hb4⟩
 obtain ⟨q, hq⟩ : ∃ q, natI (lateM (tks L) b) = q := ⟨_, rfl⟩
 rw [hq] at ho4
 have HQ := Lib.hid hq
 obtain ⟨a4, c4, rfl, -⟩ := ho4.form
 have HL4 := Lib.hid (HL3.out.below hb4)
 have HR4 := Lib.hid (HR3.out.below hb4)
 have HB4 := Lib.hid (keepBelow HB3.out hb4)
 clear ho4 hb4 hq
 by_cases hq0 : 0 < q.length
 ·have g1 : decide (0 < q.length) = true := by simpa using hq0
  clear hq0
  go_wp2
  go_ret
  exact ⟨rfl, HB4.out⟩
 have g1 : decide (0 < q.length) = false := by simpa using hq0
 have HSP : Hid (SchP (tks L) (sts R) start b) := by
  have hql : q = [] := List.eq_nil_of_length_eq_zero (by omega)
  have hh := HV.out.2
  have hlen : (tks L).length = b.length := by
   unfold holdsM at hh
   simp only [Bool.and_eq_true, decide_eq_true_eq] at hh
   exact hh.1.symm
  have hlt : lateL (tks L) b = [] := by
   have h := HQ.out
   rw [hql] at h
   unfold lateM at h
   rw [if_pos hlen] at h
   unfold natI at h
   exact List.map_eq_nil_iff.1 h
  exact sch_of_holds (vld_V HV.out.1.1) hh hlt
 clear hq0 HQ
 go_wp2_with fail
 refine (HSC.out _ L _ HL4.out HR4.out).mono ?_
 intro e w5 hpost
 obtain ⟨p5, n5, c5, z5, rfl, hz5, hb5⟩ := sc_yes HV.out.1.1 HV.out.1.2 (by omega) (by omega) HSP.out hpost
 have HL5 := Lib.hid (HL4.out.below hb5)
 have HR5 := Lib.hid (HR4.out.below hb5)
 have HB5 := Lib.hid (keepBelow HB4.out hb5)
 have HZ5 := Lib.hid hz5
 clear hpost hb5 hz5 g1
 go_upto_region 6 with fail
 go_cut [51] from 46 to 51 (fun u wx => u = .bool false ∧ wx = w5)
 case first =>
  rcases HZ5.out with rfl | rfl
  ·go_wp2_with fail
   go_meet
   exact ⟨rfl, rfl⟩
  ·go_wp2_with fail
   go_meet
   exact ⟨rfl, rfl⟩
 case rest =>
 obtain ⟨rfl, rfl⟩ := hcut
 go_wp2_with fail
 refine (HCL.out _ HL5.out (by have := HN.out; omega)).mono ?_
 rintro e w6 ⟨v6, rfl, h6, hb6⟩
 have HL6 := Lib.hid (HL5.out.below hb6)
 have HR6 := Lib.hid (HR5.out.below hb6)
 have HB6 := Lib.hid (keepBelow HB5.out hb6)
 obtain ⟨a6, c6, e6, h6c⟩ := h6
 subst e6
 have h6 : ClnK w6 wc.heap.size (.slice a6 L.length c6) L.length fun i => L.getD i kv0 := ⟨a6, c6, rfl, h6c⟩
 have H6 := Lib.hid h6
 clear h6 h6c
 have HWS : Hid (w.heap.size ≤ wc.heap.size) := HB5.out.size
 clear hb6
 go_wp2_with fail
 go_loopw [56] (fun i wr => ∃ k : Nat, k ≤ L.length ∧ i = .int .i64 k ∧ ClnK wr wc.heap.size (.slice a6 L.length c6) L.length (fun i => if i < k then duK more (L.getD i kv0) else L.getD i kv0) ∧ Below w.heap.size w wr) (fun i _ => L.length - (intOf i).toNat)
 case atStart => exact ⟨0, Nat.zero_le _, rfl, by simpa using H6.out, HB6.out⟩
 case round =>
  obtain ⟨k, hk, rfl, hcl, hB⟩ := hrel
  by_cases hlt : k < L.length
  ·have sk24 : (k : Int) ≤ 24 := by have := HN.out; omega
   obtain ⟨a', c', e', hcc⟩ := hcl
   cases e'
   obtain ⟨g6, rfl, hg6, hc50, hf5⟩ := hcc k hlt
   have hif : (if k < k then duK more (L.getD k kv0) else L.getD k kv0) = L.getD k kv0 := if_neg (by omega)
   have hc5 : Cells5 wr g6 (k * 5) (L.getD k kv0) := by rw [← hif]; exact hc50
   clear hif hc50
   have HCL6 : Hid (ClnK wr wc.heap.size (.slice (some ⟨g6, 0, none⟩) L.length c6) L.length (fun i => if i < k then duK more (L.getD i kv0) else L.getD i kv0)) := ⟨_, _, rfl, hcc⟩
   obtain ⟨x, hx⟩ : ∃ x, L.getD k kv0 = x := ⟨_, rfl⟩
   rw [hx] at hc5
   have HX := Lib.hid hx
   have d5 := hc5.2.2.2.2
   have hdu : -4398046511104 ≤ x.1.du ∧ x.1.du ≤ 4398046511104 := by
    have h := (okT_iff.1 (vld_ok HV.out.1.1 k (by rw [tks_length]; exact hlt))).2.2.2.2.2.2.2.1
    rw [tks_at, hx] at h
    exact (lineB_iff _).1 h
   have hdu1 := hdu.1
   have hdu2 := hdu.2
   have hm0 := HMM.out.1
   have hm1 := HMM.out.2
   have HB7 : Hid (∀ v, Below w.heap.size w (wr.setCell ⟨g6, k * 5 + 4, none⟩ v)) := fun v => hB.setCell (p := ⟨g6, k * 5 + 4, none⟩) (Nat.le_trans HWS.out hg6) v
   have HST : Hid (ClnK (wr.setCell ⟨g6, k * 5 + 4, none⟩ (.int .i64 (min 4398046511104 (x.1.du + more)))) wc.heap.size (.slice (some ⟨g6, 0, none⟩) L.length c6) L.length (fun i => if i < k + 1 then duK more (L.getD i kv0) else L.getD i kv0)) := by
    obtain ⟨a1, c1, e1, h1⟩ := HCL6.out.set hlt (min 4398046511104 (x.1.du + more))
    refine ⟨a1, c1, e1, fun i hi => ?_⟩
    obtain ⟨g1, e1, h2, h3, h4⟩ := h1 i hi
    refine ⟨g1, e1, h2, ?_, h4⟩
    have he : (if i = k then (({ (if k < k then duK more (L.getD k kv0) else L.getD k kv0).1 with du := min 4398046511104 (x.1.du + more) }, (if k < k then duK more (L.getD k kv0) else L.getD k kv0).2) : Kv) else if i < k then duK more (L.getD i kv0) else L.getD i kv0) = if i < k + 1 then duK more (L.getD i kv0) else L.getD i kv0 := by
     by_cases e : i = k
     ·have hif : (if k < k then duK more (L.getD k kv0) else L.getD k kv0) = L.getD k kv0 := if_neg (by omega)
      rw [if_pos e, hif, if_pos (show i < k + 1 by omega), e, HX.out]
      rfl
     ·rw [if_neg e]
      by_cases e2 : i < k
      ·rw [if_pos e2, if_pos (by omega)]
      ·rw [if_neg e2, if_neg (by omega)]
    show Cells5 _ g1 (i * 5) (if i < k + 1 then duK more (L.getD i kv0) else L.getD i kv0)
    rw [← he]
    exact h3
   clear hcc hc5 hx hdu hB hg6
   go_wp2
   go_roundw
   case rel => exact ⟨k + 1, by omega, by go_num, HST.out, HB7.out _⟩
   case measure => simp [intOf]; omega
  ·have hkl : k = L.length := by omega
   subst hkl
   have HRD : Hid (RdK wr (.slice a6 L.length c6) (L.map (duK more))) := by
    have := ClnK.rd (L := L.map (duK more)) (W := wr) (B := wc.heap.size) (v := .slice a6 (L.map (duK more)).length c6) (F := fun i => if i < L.length then duK more (L.getD i kv0) else L.getD i kv0) (by simpa using hcl) (by rw [List.length_map]; have := HN.out; omega) (fun i hi => by
     rw [List.length_map] at hi
     rw [duK_at L more hi, if_pos hi]) (fun i hi => by
     rw [List.length_map] at hi
     rw [duK_at L more hi]
     obtain ⟨_, _, _, _, h⟩ := HL.out.below hB
     exact (h i hi).1)
    rwa [List.length_map] at this
   have HB8 := Lib.hid hB
   have HR8 := Lib.hid (HR.out.below hB)
   have HL8 := Lib.hid (HL.out.below hB)
   clear hcl hB
   go_wp2_with fail
   refine (HSC.out _ _ _ HRD.out HR8.out).mono ?_
   intro e w9 hpost
   rw [tks_later] at hpost
   obtain ⟨p9, n9, c9, z9, rfl, hz9, hb9⟩ := sc_yes (later_vld HMM.out.1 HV.out.1.1) HV.out.1.2 (by omega) (by omega) (later_sch HMM.out.1 HSP.out) hpost
   have HL9 := Lib.hid (HL8.out.below hb9)
   have HR9 := Lib.hid (HR8.out.below hb9)
   have HB9 := Lib.hid (keepBelow HB8.out hb9)
   have HZ9 := Lib.hid hz9
   clear hpost hb9 hz9
   go_wp2_with fail
   refine (HCF.out _ HL9.out HR9.out).mono ?_
   intro e wa hpost
   obtain ⟨pa, na, ca', za, rfl, hza, hba⟩ := cf_yes HV.out.1.1 HV.out.1.2 HSP.out hpost
   have HBa := Lib.hid (keepBelow HB9.out hba)
   clear hpost hba
   rcases HZ9.out with rfl | rfl
   ·rcases hza with rfl | rfl
    ·go_wp2
     go_ret
     exact ⟨rfl, HBa.out⟩
    ·go_wp2
     go_ret
     exact ⟨rfl, HBa.out⟩
   ·rcases hza with rfl | rfl
    ·go_wp2
     go_ret
     exact ⟨rfl, HBa.out⟩
    ·go_wp2
     go_ret
     exact ⟨rfl, HBa.out⟩
end Go.Proofs.YtlbjfbpejomkmaaGreat
