import Derived.Test.YtlbjfbpejomkmaaGreatWkAgQo
import Derived.Test.YtlbjfbpejomkmaaGreatWkAgQm
import Derived.Test.YtlbjfbpejomkmaaGreatWkAgQg
import Derived.Test.YtlbjfbpejomkmaaGreatWkAgQh
import Derived.Test.YtlbjfbpejomkmaaGreatWkAgRv
/- The law AgendaConflicts. -/
namespace Go.Proofs.YtlbjfbpejomkmaaGreat
open Go.RowKit Wk

set_option maxRecDepth 100000 in
set_option maxHeartbeats 8000000 in
theorem law_AgendaConflicts (vl vR : Value) (start : Int) (L : List Kv) (R : List Sw) (w : World) (hL : RdK w vl L) (hR : RdR w vR R) :
  Calls Tryz.prog 6 #[vl, vR, .int .i64 start] w fun e w' => e = .returned (.bool true) ∧ Below w.heap.size w w' := by
 have HA := Lib.hid (fun W => awake48_any W)
 have HG := Lib.hid (fun W h h' => great_any vl vR L R W h h')
 have HS := Lib.hid (fun W h h' => conflict_any vl vR start L R W h h')
 have HW := Lib.hid (fun W h h' => rvalid48_any vl vR L R W h h')
 have HLI := Lib.hid (fun W => line48_any start W)
 have HT : Hid (vldM (tks L) (sts R) = true → lineB start = true → ∀ W, RdK W vl L → RdR W vR R → Calls Tryz.prog 23 #[vl, vR, .int .i64 start] W (CfPost (cfA (tks L) (sts R) start) W)) := fun hv hl W h h' => conflict48_any vl vR start L R W h h' hv hl
 have HEQ := Lib.hid (fun v1 v2 l W h h' => iseqJ_any v1 v2 l W h h')
 have HNO : Hid ((vldM (tks L) (sts R) && lineB start) = false → cfA (tks L) (sts R) start = (1, [])) := fun h => cfA_no h
 have HLP : Hid ((cfA (tks L) (sts R) start).2.length ≤ 24) := cfA_len _ _ _
 generalize cfA (tks L) (sts R) start = p at *
 generalize vldM (tks L) (sts R) = v at *
 generalize lineB start = ln at *
 have HL := Lib.hid hL
 have HR := Lib.hid hR
 obtain ⟨al, cl, rfl⟩ := hL.form
 obtain ⟨aR, cR, rfl⟩ := hR.form
 clear hL hR
 go_enter Tryz.func6, Tryz.ntmps6
 go_wp2_with fail
 refine (HA.out _).mono ?_
 rintro e w1 ⟨rfl, hb1⟩
 have HL1 := Lib.hid (HL.out.below hb1)
 have HR1 := Lib.hid (HR.out.below hb1)
 have HB1 := Lib.hid hb1
 clear hb1
 go_wp2_with fail
 refine (HG.out _ HL1.out HR1.out).mono ?_
 rintro e w2 ⟨g, rfl, -, hb2⟩
 have HL2 := Lib.hid (HL1.out.below hb2)
 have HR2 := Lib.hid (HR1.out.below hb2)
 have HB2 := Lib.hid (keepBelow HB1.out hb2)
 clear hb2
 cases g with
 | true =>
  go_wp2
  go_ret
  exact ⟨rfl, HB2.out⟩
 | false =>
 by_cases h5 : 5 < L.length
 ·have g5 : decide (5 < (L.length : Int)) = true := by simp; omega
  clear h5
  go_wp2
  go_ret
  exact ⟨rfl, HB2.out⟩
 have g5 : decide (5 < (L.length : Int)) = false := by simp; omega
 clear h5
 go_wp2_with fail
 refine (HS.out _ HL2.out HR2.out).mono ?_
 rintro e w3 ⟨x, rfl, hx, hb3⟩
 have hx := hx.rdJ (by rw [natI_length]; have := HLP.out; omega)
 have HL3 := Lib.hid (HL2.out.below hb3)
 have HR3 := Lib.hid (HR2.out.below hb3)
 have HB3 := Lib.hid (keepBelow HB2.out hb3)
 have HX3 := Lib.hid hx
 obtain ⟨ax, cx, rfl⟩ := hx.form
 clear hx hb3
 go_wp2_with fail
 refine (HW.out _ HL3.out HR3.out).mono ?_
 rintro e w4 ⟨rfl, hb4⟩
 have HL4 := Lib.hid (HL3.out.below hb4)
 have HR4 := Lib.hid (HR3.out.below hb4)
 have HB4 := Lib.hid (keepBelow HB3.out hb4)
 have HX4 := Lib.hid (HX3.out.below hb4)
 clear hb4
 cases v with
 | false =>
  have hp := HNO.out rfl
  subst hp
  go_wp2
  go_ret
  exact ⟨rfl, HB4.out⟩
 | true =>
 cases ln with
 | false =>
  have hp := HNO.out rfl
  subst hp
  go_wp2_with (first | (go_at_call 17; refine (HLI.out _).mono ?_; rintro e w' ⟨rfl, rfl⟩) | fail)
  go_ret
  exact ⟨rfl, HB4.out⟩
 | true =>
 go_wp2_with (first | (go_at_call 17; refine (HLI.out _).mono ?_; rintro e w' ⟨rfl, rfl⟩) | fail)
 refine (HT.out (by first | rfl | trivial) (by first | rfl | trivial) _ HL4.out HR4.out).mono ?_
 rintro e w5 ⟨y, rfl, hy, hb5⟩
 have hy := hy.rdJ (by rw [natI_length]; have := HLP.out; omega)
 have HB5 := Lib.hid (keepBelow HB4.out hb5)
 have HX5 := Lib.hid (HX4.out.below hb5)
 have HY5 := Lib.hid hy
 obtain ⟨ay, cy, rfl⟩ := hy.form
 have gp : (p.1 == p.1) = true := by simp
 clear hy hb5
 go_wp2_with fail
 refine (HEQ.out _ _ _ _ HX5.out HY5.out).mono ?_
 rintro e w6 ⟨rfl, hb6⟩
 have HB6 := Lib.hid (keepBelow HB5.out hb6)
 clear hb6
 go_wp2
 go_ret
 exact ⟨by first | rfl | simp, HB6.out⟩
end Go.Proofs.YtlbjfbpejomkmaaGreat
