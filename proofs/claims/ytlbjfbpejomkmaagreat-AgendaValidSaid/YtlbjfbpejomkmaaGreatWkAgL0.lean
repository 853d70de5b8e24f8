import Derived.Test.YtlbjfbpejomkmaaGreatWkAgQg
import Derived.Test.YtlbjfbpejomkmaaGreatWkAgRv
/- The law AgendaValid. -/
namespace Go.Proofs.YtlbjfbpejomkmaaGreat
open Go.RowKit Wk

set_option maxRecDepth 100000 in
set_option maxHeartbeats 4000000 in
theorem law_AgendaValid (vl vR : Value) (L : List Kv) (R : List Sw) (w : World) (hL : RdK w vl L) (hR : RdR w vR R) :
    Calls Tryz.prog 3 #[vl, vR] w fun e w' => e = .returned (.bool true) ∧ Below w.heap.size w w' := by
  have HA := Lib.hid (fun W => awake48_any W)
  have HG := Lib.hid (fun W h h' => great_any vl vR L R W h h')
  have HV := Lib.hid (fun W h h' => agvalid_any vl vR L R W h h')
  have HW := Lib.hid (fun W h h' => rvalid48_any vl vR L R W h h')
  generalize vldM (tks L) (sts R) = v at *
  have HL := Lib.hid hL
  have HR := Lib.hid hR
  obtain ⟨al, cl, rfl⟩ := hL.form
  obtain ⟨aR, cR, rfl⟩ := hR.form
  clear hL hR
  go_enter Tryz.func3, Tryz.ntmps3
  go_wp2_with fail
  refine (HA.out _).mono ?_
  rintro e w1 ⟨rfl, hb1⟩
  have HL1 := Lib.hid (HL.out.below hb1)
  have HR1 := Lib.hid (HR.out.below hb1)
  have HB1 := Lib.hid hb1
  clear hb1
  go_wp2_with fail
  refine (HG.out _ HL1.out HR1.out).mono ?_
  rintro e w2 ⟨g, rfl, -, hb2⟩
  have HL2 := Lib.hid (HL1.out.below hb2)
  have HR2 := Lib.hid (HR1.out.below hb2)
  have HB2 := Lib.hid (keepBelow HB1.out hb2)
  clear hb2
  cases g with
  | true =>
    go_wp2
    go_ret
    exact ⟨rfl, HB2.out⟩
  | false =>
  go_wp2_with fail
  refine (HV.out _ HL2.out HR2.out).mono ?_
  rintro e w3 ⟨rfl, hb3⟩
  have HL3 := Lib.hid (HL2.out.below hb3)
  have HR3 := Lib.hid (HR2.out.below hb3)
  have HB3 := Lib.hid (keepBelow HB2.out hb3)
  clear hb3
  go_wp2_with fail
  refine (HW.out _ HL3.out HR3.out).mono ?_
  rintro e w4 ⟨rfl, hb4⟩
  have HB4 := Lib.hid (keepBelow HB3.out hb4)
  clear hb4
  go_wp2
  go_ret
  exact ⟨by first | rfl | simp, HB4.out⟩
end Go.Proofs.YtlbjfbpejomkmaaGreat
