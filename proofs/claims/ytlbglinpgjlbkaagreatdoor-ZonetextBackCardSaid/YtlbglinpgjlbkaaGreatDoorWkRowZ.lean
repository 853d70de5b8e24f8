import Derived.Test.YtlbglinpgjlbkaaGreatDoorCards
import Derived.Test.YtlbglinpgjlbkaaGreatDoorTie
import Derived.Test.YtlbglinpgjlbkaaGreatDoorWkO1
import Derived.Deep.DeepHandedRow
import Derived.Deep.DeepWitnessRowRef
import Derived.Lay
import Derived.Lib.LaidTab
import Derived.SevenTiedAt
import Derived.LaidSub
import Derived.SizedLaws
import Derived.ProofKit
import Derived.OpenShut
import Derived.ChangeOld
import Derived.Carry
import Derived.Shelf.Vars
/- Rows of the Zonetext laws: what they share. Printed by gen_zrow.py. -/
namespace Go.Proofs.YtlbglinpgjlbkaaGreatDoor
open Go.ChangeShapes Go.WideShapes Go.ChangeAt Go.RowKit Wk

theorem rowOwn : ownKnob Tryz.prog.godebug = none := by kernel_rfl
theorem rowLaidO : laidOutB Tryz.prog = true := by kernel_rfl
set_option maxRecDepth 100000 in
theorem glob_of_shaped {W : World} (h : W.ShapedOpen Tryz.prog) : Glob W := cell_of_shapedOpen_int (g := 0) (t := 3) (zero := #[.int .i64 0]) h (of_decide_eq_true (by kernel_rfl)) (by kernel_rfl) rfl (by kernel_rfl) (by kernel_rfl) Tryz.underlying3
set_option maxRecDepth 100000 in
theorem tab_of_laid {W : World} (h : laidMetH Tryz.prog Rows.zonetextDaysRow.laid W) : TabP W := by
 have h2 := laidMetH.filter (fun x => x.1 == "internal/strconv.uint64pow10") h
 have e : Rows.zonetextDaysRow.laid.filter (fun x => x.1 == "internal/strconv.uint64pow10") = [("internal/strconv.uint64pow10", Lib.tabData .u64 Lib.pow10Tab)] := by kernel_rfl
 rw [e] at h2
 have h3 : laidMet Tryz.prog [("internal/strconv.uint64pow10", Lib.tabData .u64 Lib.pow10Tab)] W := h2
 exact Lib.tabIs_of_head (g := 1) (t := 234) (e := 213) (n := 20) (by kernel_rfl) (by kernel_rfl) (by kernel_rfl) (by kernel_rfl) (by kernel_rfl) (by kernel_rfl) h3
end Go.Proofs.YtlbglinpgjlbkaaGreatDoor
