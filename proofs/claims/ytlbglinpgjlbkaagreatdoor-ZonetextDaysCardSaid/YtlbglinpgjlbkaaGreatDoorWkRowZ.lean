import Derived.Test.YtlbglinpgjlbkaaGreatDoorCards
import Derived.Test.YtlbglinpgjlbkaaGreatDoorTie
import Derived.Test.YtlbglinpgjlbkaaGreatDoorWkO1
import Derived.Deep.DeepHandedRow
import Derived.Deep.DeepWitnessRowRef
import Derived.Lay
import Derived.Lib.LaidTab
import Derived.SevenTiedAt
import Derived.LaidSub
import Derived.SizedLaws
import Derived.ProofKit
import Derived.OpenShut
import Derived.ChangeOld
import Derived.Carry
import Derived.Shelf.Vars
/- Rows of the Zonetext laws: what they share. Printed by gen_zrow.py. -/
namespace Go.Proofs.YtlbglinpgjlbkaaGreatDoor
open Go.ChangeShapes Go.WideShapes Go.ChangeAt Go.RowKit Wk

theorem rowOwn : ownKnob Tryz.prog.godebug = none := by kernel_rfl
theorem rowLaidO : laidOutB Tryz.prog = true := by kernel_rfl
set_option maxRecDepth 100000 in
theorem glob_of_shaped {W : World} (h : W.ShapedOpen Tryz.prog) : Glob W := cell_of_shapedOpen_int (g := 0) (t := 3) (zero := #[.int .i64 0]) h (of_decide_eq_true (by kernel_rfl)) (by kernel_rfl) rfl (by kernel_rfl) (by kernel_rfl) Tryz.underlying3
set_option maxRecDepth 100000 in
theorem tab_of_laid {W : World} (h : laidMetH Tryz.prog Rows.zonetextDaysRow.laid W) : TabP W := by
 have h2 := laidMetH.filter (fun x => x.1 == "internal/strconv.uint64pow10") h
 have e : Rows.zonetextDaysRow.laid.filter (fun x => x.1 == "internal/strconv.uint64pow10") = [("internal/strconv.uint64pow10", Lib.tabData .u64 Lib.pow10Tab)] := by kernel_rfl
 rw [e] at h2
 have h3 : laidMet Tryz.prog [("internal/strconv.uint64pow10", Lib.tabData .u64 Lib.pow10Tab)] W := h2
 exact Lib.tabIs_of_head (g := 1) (t := 234) (e := 213) (n := 20) (by kernel_rfl) (by kernel_rfl) (by kernel_rfl) (by kernel_rfl) (by kernel_rfl) (by kernel_rfl) h3
set_option maxRecDepth 100000 in
theorem open_on {H : Type} {enc : TypeId × Value → H} {W : World} {base : Nat} {spare : Nat → Bool} {held : Bool} {v : Value} {d : DataW H} {p : List MemPlace} (hv : Value.okWide Tryz.prog W .any base 39 v)
  (h : DataW.Trod enc Tryz.prog W 0 spare held 39 v d p) : ∃ o : OnT, v = onV o := by
 obtain ⟨cs, rfl, hsz⟩ := okWide_struct (P := Tryz.prog) Tryz.underlying39 hv
 obtain ⟨fuel, h⟩ := h
 obtain ⟨xs, k, rfl, hx, hcl, hxl, hf⟩ := DataW.trod_struct (P := Tryz.prog) Tryz.underlying39 h
 have hc : Tryz.prog.cellsOf 39 = 3 := by kernel_rfl
 have hc3 : Tryz.prog.cellsOf 3 = 1 := by kernel_rfl
 clear hx h hsz
 simp only [Value.cells] at hcl hf
 obtain ⟨cl⟩ := cs
 rw [hc] at hcl
 simp only at hcl hf
 match xs, hxl, cl, hcl with
 | [y0, y1, y2], _, [u0, u1, u2], _ =>
  have g0 := hf 0 _ rfl
  have g1 := hf 1 _ rfl
  have g2 := hf 2 _ rfl
  simp [hc3] at g0 g1 g2
  obtain ⟨x0, e0, _⟩ := DataW.trod_int (P := Tryz.prog) Tryz.underlying3 g0
  obtain ⟨x1, e1, _⟩ := DataW.trod_int (P := Tryz.prog) Tryz.underlying3 g1
  obtain ⟨x2, e2, _⟩ := DataW.trod_int (P := Tryz.prog) Tryz.underlying3 g2
  simp at e0 e1 e2
  exact ⟨⟨x0, x1, x2⟩, by rw [e0, e1, e2]; rfl⟩
end Go.Proofs.YtlbglinpgjlbkaaGreatDoor
