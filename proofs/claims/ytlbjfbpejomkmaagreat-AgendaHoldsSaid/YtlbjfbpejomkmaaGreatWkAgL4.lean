import Derived.Test.YtlbjfbpejomkmaaGreatWkAgQj
import Derived.Test.YtlbjfbpejomkmaaGreatWkAgHr
import Derived.Test.YtlbjfbpejomkmaaGreatWkAgRv
import Derived.Test.YtlbjfbpejomkmaaGreatWkAgQg
/- The law AgendaHolds. -/
namespace Go.Proofs.YtlbjfbpejomkmaaGreat
open Go.RowKit Wk

set_option maxRecDepth 100000 in
set_option maxHeartbeats 16000000 in
theorem law_AgendaHolds (vl vR : Value) (start : Int) (va : Value) (L : List Kv) (R : List Sw) (b : List Sp) (w : World) (hL : RdK w vl L) (hR : RdR w vR R) (hS : RdS w va b) (hcap : CapK vl) :
  Calls Tryz.prog 5 #[vl, vR, .int .i64 start, va] w fun e w' => e = .returned (.bool true) ∧ Below w.heap.size w w' := by
 have HA := Lib.hid (fun W => awake48_any W)
 have HG := Lib.hid (fun W h h' => great_wk vl vR L R W h h')
 have HRV := Lib.hid (fun W h h' => rvalid48_any vl vR L R W h h')
 have HHO := Lib.hid (fun W h1 h2 h3 => aholds_any vl vR va start L R b W h1 h2 h3 hcap)
 have HRH := Lib.hid (fun W h1 h2 h3 h4 h5 => rholds_any vl vR va start L R b W h1 h2 h3 h4 h5)
 have HLI := Lib.hid (fun W => line48_any start W)
 have HL := Lib.hid hL
 have HR := Lib.hid hR
 have HS := Lib.hid hS
 obtain ⟨al, cl, rfl⟩ := hL.form
 obtain ⟨aR, cR, rfl⟩ := hR.form
 obtain ⟨aa, ca, rfl⟩ := hS.form
 clear hL hR hS hcap
 go_enter Tryz.func5, Tryz.ntmps5
 go_wp2_with fail
 refine (HA.out _).mono ?_
 rintro e w1 ⟨rfl, hb1⟩
 have HL1 := Lib.hid (HL.out.below hb1)
 have HR1 := Lib.hid (HR.out.below hb1)
 have HS1 := Lib.hid (keepRd hb1 HS.out)
 have HB1 := Lib.hid hb1
 clear hb1
 go_wp2_with fail
 refine (HG.out _ HL1.out HR1.out).mono ?_
 rintro e w2 ⟨g, rfl, hgr, hb2⟩
 have HL2 := Lib.hid (HL1.out.below hb2)
 have HR2 := Lib.hid (HR1.out.below hb2)
 have HS2 := Lib.hid (keepRd hb2 HS1.out)
 have HB2 := Lib.hid (keepBelow HB1.out hb2)
 clear hb2 hgr
 cases g with
 | true =>
  go_wp2
  go_ret
  exact ⟨rfl, HB2.out⟩
 | false =>
 go_wp2_with fail
 refine (HRV.out _ HL2.out HR2.out).mono ?_
 rintro e w3 ⟨rfl, hb3⟩
 have HL3 := Lib.hid (HL2.out.below hb3)
 have HR3 := Lib.hid (HR2.out.below hb3)
 have HS3 := Lib.hid (keepRd hb3 HS2.out)
 have HB3 := Lib.hid (keepBelow HB2.out hb3)
 clear hb3
 obtain ⟨vb, hvb⟩ : ∃ v, vldM (tks L) (sts R) = v := ⟨_, rfl⟩
 rw [hvb]
 have HVB := Lib.hid hvb
 clear hvb
 cases vb with
 | false =>
  have HM : Hid (HoM (tks L) (sts R) start b = false) := by unfold Hid HoM; rw [HVB.out]; rfl
  go_wp2_with fail
  refine (HHO.out _ HL3.out HR3.out HS3.out).mono ?_
  rintro e w9 ⟨rfl, hb9⟩
  rw [HM.out]
  have HB9 := Lib.hid (keepBelow HB3.out hb9)
  clear hb9
  go_wp2
  go_ret
  exact ⟨rfl, HB9.out⟩
 | true =>
 by_cases hne : b.length = L.length
 ·have g1 : ((b.length : Int) == (L.length : Int)) = true := by simp; omega
  have HNE := Lib.hid hne
  clear hne
  obtain ⟨lb, hlb⟩ : ∃ v, lineB start = v := ⟨_, rfl⟩
  rw [hlb] at HLI
  have HLB := Lib.hid hlb
  clear hlb
  cases lb with
  | false =>
   have HM : Hid (HoM (tks L) (sts R) start b = false) := by unfold Hid HoM; rw [HVB.out, HLB.out]; rfl
   go_wp2_with (first | (go_at_call 17; refine (HLI.out _).mono ?_; rintro e w' ⟨rfl, rfl⟩) | fail)
   refine (HHO.out _ HL3.out HR3.out HS3.out).mono ?_
   rintro e w9 ⟨rfl, hb9⟩
   rw [HM.out]
   have HB9 := Lib.hid (keepBelow HB3.out hb9)
   clear hb9
   go_wp2
   go_ret
   exact ⟨rfl, HB9.out⟩
  | true =>
   obtain ⟨hm, hhm⟩ : ∃ v, holdsM (tks L) (sts R) start b = v := ⟨_, rfl⟩
   have HM : Hid (HoM (tks L) (sts R) start b = hm) := by
    unfold Hid HoM
    rw [HVB.out, HLB.out, hhm]; simp
   have HHM := Lib.hid hhm
   clear hhm
   go_wp2_with (first | (go_at_call 17; refine (HLI.out _).mono ?_; rintro e w' ⟨rfl, rfl⟩) | fail)
   refine (HRH.out _ HL3.out HR3.out HS3.out HVB.out HNE.out).mono ?_
   rintro e w4 ⟨rfl, hb4⟩
   rw [HHM.out]
   have HL4 := Lib.hid (HL3.out.below hb4)
   have HR4 := Lib.hid (HR3.out.below hb4)
   have HS4 := Lib.hid (keepRd hb4 HS3.out)
   have HB4 := Lib.hid (keepBelow HB3.out hb4)
   clear hb4 g1
   cases hm with
   | false =>
    go_wp2_with fail
    refine (HHO.out _ HL4.out HR4.out HS4.out).mono ?_
    rintro e w9 ⟨rfl, hb9⟩
    rw [HM.out]
    have HB9 := Lib.hid (keepBelow HB4.out hb9)
    clear hb9
    go_wp2
    go_ret
    exact ⟨rfl, HB9.out⟩
   | true =>
    go_wp2_with fail
    refine (HHO.out _ HL4.out HR4.out HS4.out).mono ?_
    rintro e w9 ⟨rfl, hb9⟩
    rw [HM.out]
    have HB9 := Lib.hid (keepBelow HB4.out hb9)
    clear hb9
    go_wp2
    go_ret
    exact ⟨rfl, HB9.out⟩
 ·have g1 : ((b.length : Int) == (L.length : Int)) = false := by simp; omega
  have HM : Hid (HoM (tks L) (sts R) start b = false) := by
   unfold Hid HoM holdsM
   rw [decide_eq_false (p := b.length = (tks L).length) (by rw [tks_length]; exact hne)]
   simp
  clear hne
  go_wp2_with fail
  refine (HHO.out _ HL3.out HR3.out HS3.out).mono ?_
  rintro e w9 ⟨rfl, hb9⟩
  rw [HM.out]
  have HB9 := Lib.hid (keepBelow HB3.out hb9)
  clear hb9
  go_wp2
  go_ret
  exact ⟨rfl, HB9.out⟩
end Go.Proofs.YtlbjfbpejomkmaaGreat
