/-
  NARROWER THAN 'FOR EVERY INPUT', by the rows' own cells (each row's printed sentence says how): OpeningWeeks: laid · OpeningPointwise: laid · OpeningShifts: laid · OpeningStaff: laid · OpeningTexts: laid · OpeningBack: laid.
  DERIVED. THE GIVEN ROWS OF THIS SEAT. 6 by the template 'for every input the law returns true; each argument reads behind the call as it read before'; 0 by the template 'total and deterministic' (their statements: YtmfdnbfjdhlonaaGreatDoorTotals.lean).
  GIVEN WITH THE SEED: the statements are not yours to turn. If you find one false, say at which input.
  Laid BY PROGRAM, IN A SANDBOX (cutbox-rows.mjs): the forced cells as the released guide's own fill.sh prints them over the translation 8212df562d6fb677… (all of the seat's roots in one cut). By AI agents, Wed Nov 11 2026. No macro, syntax, notation, axiom, sorry.
-/
import Derived.Test.YtmfdnbfjdhlonaaGreatDoorChecked
import GoSem.PinnedTables
import GoSem.Claim
import GoSem.ClaimJoined
import GoSem.ClaimMapViews
import Derived.JoinedTies
import Derived.KernelRfl
namespace Go.Proofs.YtmfdnbfjdhlonaaGreatDoor
/- THE CELL 'sum', in the pinned program and in every row, IS THE sha256 OF THE DUMP (.gsa) THAT YtmfdnbfjdhlonaaGreatDoorProg.lean LOADS. Nothing in Lean hashes anything: it is a label: what it is worth is what the hold of that sum in a sandbox is worth. -/
noncomputable def Tryz.pinned : Pinned := { name := "ytmfdnbfjdhlonaagreatdoor", sum := "8212df562d6fb677f1dc5fe42d718856b6a55c09e6009ec1b7df04acc528615a", checked := Tryz.checked }
namespace Rows
def none {H : Type} : Left H := { results := [], args := [] }

/- WHAT THE LISTED PACKAGE-LEVEL VARIABLES READ AS WHEN THE CALL BEGINS. Each datum BY PROGRAM (the guide's laid-datum.mjs) off the statement by which the dump's own 'gosem.cut.vars' lays the variable. In a bare row this is a premise. The card (YtmfdnbfjdhlonaaGreatDoorCards.lean) ties it to the program's text. -/
def laid_unicode_utf8_acceptRanges {H : Type} : DataW H := .agg [.agg [.lit (.int .u8 128), .lit (.int .u8 191)], .agg [.lit (.int .u8 160), .lit (.int .u8 191)], .agg [.lit (.int .u8 128), .lit (.int .u8 159)], .agg [.lit (.int .u8 144), .lit (.int .u8 191)], .agg [.lit (.int .u8 128), .lit (.int .u8 143)], .agg [.lit (.int .u8 0), .lit (.int .u8 0)], .agg [.lit (.int .u8 0), .lit (.int .u8 0)], .agg [.lit (.int .u8 0), .lit (.int .u8 0)], .agg [.lit (.int .u8 0), .lit (.int .u8 0)], .agg [.lit (.int .u8 0), .lit (.int .u8 0)], .agg [.lit (.int .u8 0), .lit (.int .u8 0)], .agg [.lit (.int .u8 0), .lit (.int .u8 0)], .agg [.lit (.int .u8 0), .lit (.int .u8 0)], .agg [.lit (.int .u8 0), .lit (.int .u8 0)], .agg [.lit (.int .u8 0), .lit (.int .u8 0)], .agg [.lit (.int .u8 0), .lit (.int .u8 0)]]
/-- One of Go's own tables, pinned by name: the form's constant. -/
def laid_unicode_utf8_first : DataW Unit := Go.Pinned.utf8First

/-- 'civiltimelaw27.OpeningWeeks': WHATEVER THE INPUT: true; the input reads as it did. -/
def openingWeeksSpec : ChangeSpec := { name := "openingWeeks", fn := fun _ => fun
  | [d] => { results := [.lit (.bool true)], args := [d] }
  | _ => none }
def openingWeeksRow : OpenClaim := { program := "ytmfdnbfjdhlonaagreatdoor", sum := "8212df562d6fb677f1dc5fe42d718856b6a55c09e6009ec1b7df04acc528615a", func := "civiltime/civiltimelaw27.OpeningWeeks", spec := "openingWeeks", inPlace := ["internal/bytealg.CountString", "internal/bytealg.IndexByteString", "internal/bytealg.IndexString"], unfollowed := true, recurses := true, named := ["unicode/utf8.first", "unicode/utf8.acceptRanges", "internal/bytealg.MaxLen"], apart := false, laid := [("unicode/utf8.acceptRanges", laid_unicode_utf8_acceptRanges), ("unicode/utf8.first", laid_unicode_utf8_first)] }
def OpeningWeeksSaid : Prop := openingWeeksRow.holds Tryz.pinned (OpenSpec.ofChange openingWeeksSpec)

/-- ITS FALSE NEIGHBOUR: 'it returns false'. Refute it at one input. -/
def openingWeeksWrong : ChangeSpec := { name := "openingWeeks", fn := fun _ => fun
  | [d] => { results := [.lit (.bool false)], args := [d] }
  | _ => none }
def OpeningWeeksWrongFalsely : Prop := openingWeeksRow.holds Tryz.pinned (OpenSpec.ofChange openingWeeksWrong)

/-- 'civiltimelaw27.OpeningPointwise': WHATEVER THE INPUT: true; the input reads as it did. -/
def openingPointwiseSpec : ChangeSpec := { name := "openingPointwise", fn := fun _ => fun
  | [d1, d2, d3] => { results := [.lit (.bool true)], args := [d1, d2, d3] }
  | _ => none }
def openingPointwiseRow : OpenClaim := { program := "ytmfdnbfjdhlonaagreatdoor", sum := "8212df562d6fb677f1dc5fe42d718856b6a55c09e6009ec1b7df04acc528615a", func := "civiltime/civiltimelaw27.OpeningPointwise", spec := "openingPointwise", inPlace := ["internal/bytealg.CountString", "internal/bytealg.IndexByteString", "internal/bytealg.IndexString"], unfollowed := true, recurses := true, named := ["unicode/utf8.first", "unicode/utf8.acceptRanges", "internal/bytealg.MaxLen"], apart := false, laid := [("unicode/utf8.acceptRanges", laid_unicode_utf8_acceptRanges), ("unicode/utf8.first", laid_unicode_utf8_first)] }
def OpeningPointwiseSaid : Prop := openingPointwiseRow.holds Tryz.pinned (OpenSpec.ofChange openingPointwiseSpec)

/-- ITS FALSE NEIGHBOUR: 'it returns false'. Refute it at one input. -/
def openingPointwiseWrong : ChangeSpec := { name := "openingPointwise", fn := fun _ => fun
  | [d1, d2, d3] => { results := [.lit (.bool false)], args := [d1, d2, d3] }
  | _ => none }
def OpeningPointwiseWrongFalsely : Prop := openingPointwiseRow.holds Tryz.pinned (OpenSpec.ofChange openingPointwiseWrong)

/-- 'civiltimelaw27.OpeningShifts': WHATEVER THE INPUT: true; the input reads as it did. -/
def openingShiftsSpec : ChangeSpec := { name := "openingShifts", fn := fun _ => fun
  | [d1, d2, d3, d4] => { results := [.lit (.bool true)], args := [d1, d2, d3, d4] }
  | _ => none }
def openingShiftsRow : OpenClaim := { program := "ytmfdnbfjdhlonaagreatdoor", sum := "8212df562d6fb677f1dc5fe42d718856b6a55c09e6009ec1b7df04acc528615a", func := "civiltime/civiltimelaw27.OpeningShifts", spec := "openingShifts", inPlace := ["internal/bytealg.CountString", "internal/bytealg.IndexByteString", "internal/bytealg.IndexString"], unfollowed := true, recurses := true, named := ["unicode/utf8.first", "unicode/utf8.acceptRanges", "internal/bytealg.MaxLen"], apart := false, laid := [("unicode/utf8.acceptRanges", laid_unicode_utf8_acceptRanges), ("unicode/utf8.first", laid_unicode_utf8_first)] }
def OpeningShiftsSaid : Prop := openingShiftsRow.holds Tryz.pinned (OpenSpec.ofChange openingShiftsSpec)

/-- ITS FALSE NEIGHBOUR: 'it returns false'. Refute it at one input. -/
def openingShiftsWrong : ChangeSpec := { name := "openingShifts", fn := fun _ => fun
  | [d1, d2, d3, d4] => { results := [.lit (.bool false)], args := [d1, d2, d3, d4] }
  | _ => none }
def OpeningShiftsWrongFalsely : Prop := openingShiftsRow.holds Tryz.pinned (OpenSpec.ofChange openingShiftsWrong)

/-- 'civiltimelaw27.OpeningStaff': WHATEVER THE INPUT: true; the input reads as it did. -/
def openingStaffSpec : ChangeSpec := { name := "openingStaff", fn := fun _ => fun
  | [d1, d2, d3, d4] => { results := [.lit (.bool true)], args := [d1, d2, d3, d4] }
  | _ => none }
def openingStaffRow : OpenClaim := { program := "ytmfdnbfjdhlonaagreatdoor", sum := "8212df562d6fb677f1dc5fe42d718856b6a55c09e6009ec1b7df04acc528615a", func := "civiltime/civiltimelaw27.OpeningStaff", spec := "openingStaff", inPlace := ["internal/bytealg.CountString", "internal/bytealg.IndexByteString", "internal/bytealg.IndexString", "internal/abi.NoEscape", "internal/bytealg.MakeNoZero"], unfollowed := true, recurses := true, named := ["unicode/utf8.first", "unicode/utf8.acceptRanges", "internal/bytealg.MaxLen"], apart := false, laid := [("unicode/utf8.acceptRanges", laid_unicode_utf8_acceptRanges), ("unicode/utf8.first", laid_unicode_utf8_first)] }
def OpeningStaffSaid : Prop := openingStaffRow.holds Tryz.pinned (OpenSpec.ofChange openingStaffSpec)

/-- ITS FALSE NEIGHBOUR: 'it returns false'. Refute it at one input. -/
def openingStaffWrong : ChangeSpec := { name := "openingStaff", fn := fun _ => fun
  | [d1, d2, d3, d4] => { results := [.lit (.bool false)], args := [d1, d2, d3, d4] }
  | _ => none }
def OpeningStaffWrongFalsely : Prop := openingStaffRow.holds Tryz.pinned (OpenSpec.ofChange openingStaffWrong)

/-- 'civiltimelaw27.OpeningTexts': WHATEVER THE INPUT: true; the input reads as it did. -/
def openingTextsSpec : ChangeSpec := { name := "openingTexts", fn := fun _ => fun
  | [d1, d2] => { results := [.lit (.bool true)], args := [d1, d2] }
  | _ => none }
def openingTextsRow : OpenClaim := { program := "ytmfdnbfjdhlonaagreatdoor", sum := "8212df562d6fb677f1dc5fe42d718856b6a55c09e6009ec1b7df04acc528615a", func := "civiltime/civiltimelaw27.OpeningTexts", spec := "openingTexts", inPlace := ["internal/bytealg.CountString", "internal/bytealg.IndexByteString", "internal/bytealg.IndexString", "internal/abi.NoEscape", "internal/bytealg.MakeNoZero"], unfollowed := true, recurses := true, named := ["unicode/utf8.first", "unicode/utf8.acceptRanges", "internal/bytealg.MaxLen"], apart := false, laid := [("unicode/utf8.acceptRanges", laid_unicode_utf8_acceptRanges), ("unicode/utf8.first", laid_unicode_utf8_first)] }
def OpeningTextsSaid : Prop := openingTextsRow.holds Tryz.pinned (OpenSpec.ofChange openingTextsSpec)

/-- ITS FALSE NEIGHBOUR: 'it returns false'. Refute it at one input. -/
def openingTextsWrong : ChangeSpec := { name := "openingTexts", fn := fun _ => fun
  | [d1, d2] => { results := [.lit (.bool false)], args := [d1, d2] }
  | _ => none }
def OpeningTextsWrongFalsely : Prop := openingTextsRow.holds Tryz.pinned (OpenSpec.ofChange openingTextsWrong)

/-- 'civiltimelaw27.OpeningBack': WHATEVER THE INPUT: true; the input reads as it did. -/
def openingBackSpec : ChangeSpec := { name := "openingBack", fn := fun _ => fun
  | [d1, d2] => { results := [.lit (.bool true)], args := [d1, d2] }
  | _ => none }
def openingBackRow : OpenClaim := { program := "ytmfdnbfjdhlonaagreatdoor", sum := "8212df562d6fb677f1dc5fe42d718856b6a55c09e6009ec1b7df04acc528615a", func := "civiltime/civiltimelaw27.OpeningBack", spec := "openingBack", inPlace := ["internal/bytealg.CountString", "internal/bytealg.IndexByteString", "internal/bytealg.IndexString", "internal/abi.NoEscape", "internal/bytealg.MakeNoZero"], unfollowed := true, recurses := true, named := ["unicode/utf8.first", "unicode/utf8.acceptRanges", "internal/bytealg.MaxLen"], apart := false, laid := [("unicode/utf8.acceptRanges", laid_unicode_utf8_acceptRanges), ("unicode/utf8.first", laid_unicode_utf8_first)] }
def OpeningBackSaid : Prop := openingBackRow.holds Tryz.pinned (OpenSpec.ofChange openingBackSpec)

/-- ITS FALSE NEIGHBOUR: 'it returns false'. Refute it at one input. -/
def openingBackWrong : ChangeSpec := { name := "openingBack", fn := fun _ => fun
  | [d1, d2] => { results := [.lit (.bool false)], args := [d1, d2] }
  | _ => none }
def OpeningBackWrongFalsely : Prop := openingBackRow.holds Tryz.pinned (OpenSpec.ofChange openingBackWrong)

/- THE SECOND FORM. 'bulk': how many values and letters a reading holds, each counted each time it is reached (what is shared counts as often as it is met; a slice's spare places count too). A statement '..UptoSaid' is the law's where the arguments, and the package variables that the reading takes, are together of bulk at most 1048576: NARROWER than '..Said'. Prove '..Said' where nothing that the law and all that it calls make is longer than what came in: it says more and counts as full. Else prove '..UptoSaid'. A law counts once. -/
mutual
def uptoBulk {H : Type} : DataW H → Nat
  | .lit (.string bytes) => bytes.length + 1
  | .lit _ => 1
  | .nil => 1
  | .ptr d => uptoBulk d + 1
  | .slice elems spare => uptoBulkAll elems + uptoBulkAll spare + 1
  | .agg parts => uptoBulkAll parts + 1
  | .iface _ d => uptoBulk d + 1
  | .map entries => uptoBulkEntries entries + 1
  | .held _ => 1
def uptoBulkAll {H : Type} : List (DataW H) → Nat
  | [] => 0
  | d :: r => uptoBulk d + uptoBulkAll r
def uptoBulkEntries {H : Type} : List (Lit × DataW H) → Nat
  | [] => 0
  | x :: r => uptoBulkEntry x + uptoBulkEntries r
def uptoBulkEntry {H : Type} : Lit × DataW H → Nat
  | (.string bytes, d) => bytes.length + uptoBulk d + 1
  | (_, d) => uptoBulk d + 1
 end
def uptoSmall : (H : Type) → List (DataW H) → Bool := fun _ ds => decide (uptoBulkAll ds ≤ 1048576)
def OpenSpec.upto (s : _root_.Go.ChangeSpec) : _root_.Go.OpenSpec := { _root_.Go.OpenSpec.ofChange s with cond := some uptoSmall }

/-- 'civiltimelaw27.OpeningWeeks', WHERE WHAT IT READS IS OF BULK AT MOST 1048576: true; the input reads as it did. -/
def openingWeeksUptoRow : OpenClaim := { program := "ytmfdnbfjdhlonaagreatdoor", sum := "8212df562d6fb677f1dc5fe42d718856b6a55c09e6009ec1b7df04acc528615a", func := "civiltime/civiltimelaw27.OpeningWeeks", spec := "openingWeeks", inPlace := ["internal/bytealg.CountString", "internal/bytealg.IndexByteString", "internal/bytealg.IndexString"], unfollowed := true, recurses := true, named := ["unicode/utf8.first", "unicode/utf8.acceptRanges", "internal/bytealg.MaxLen"], apart := false, laid := [("unicode/utf8.acceptRanges", laid_unicode_utf8_acceptRanges), ("unicode/utf8.first", laid_unicode_utf8_first)], narrowed := true }
def OpeningWeeksUptoSaid : Prop := openingWeeksUptoRow.holds Tryz.pinned (OpenSpec.upto openingWeeksSpec)

/-- 'civiltimelaw27.OpeningPointwise', WHERE WHAT IT READS IS OF BULK AT MOST 1048576: true; the input reads as it did. -/
def openingPointwiseUptoRow : OpenClaim := { program := "ytmfdnbfjdhlonaagreatdoor", sum := "8212df562d6fb677f1dc5fe42d718856b6a55c09e6009ec1b7df04acc528615a", func := "civiltime/civiltimelaw27.OpeningPointwise", spec := "openingPointwise", inPlace := ["internal/bytealg.CountString", "internal/bytealg.IndexByteString", "internal/bytealg.IndexString"], unfollowed := true, recurses := true, named := ["unicode/utf8.first", "unicode/utf8.acceptRanges", "internal/bytealg.MaxLen"], apart := false, laid := [("unicode/utf8.acceptRanges", laid_unicode_utf8_acceptRanges), ("unicode/utf8.first", laid_unicode_utf8_first)], narrowed := true }
def OpeningPointwiseUptoSaid : Prop := openingPointwiseUptoRow.holds Tryz.pinned (OpenSpec.upto openingPointwiseSpec)

/-- 'civiltimelaw27.OpeningShifts', WHERE WHAT IT READS IS OF BULK AT MOST 1048576: true; the input reads as it did. -/
def openingShiftsUptoRow : OpenClaim := { program := "ytmfdnbfjdhlonaagreatdoor", sum := "8212df562d6fb677f1dc5fe42d718856b6a55c09e6009ec1b7df04acc528615a", func := "civiltime/civiltimelaw27.OpeningShifts", spec := "openingShifts", inPlace := ["internal/bytealg.CountString", "internal/bytealg.IndexByteString", "internal/bytealg.IndexString"], unfollowed := true, recurses := true, named := ["unicode/utf8.first", "unicode/utf8.acceptRanges", "internal/bytealg.MaxLen"], apart := false, laid := [("unicode/utf8.acceptRanges", laid_unicode_utf8_acceptRanges), ("unicode/utf8.first", laid_unicode_utf8_first)], narrowed := true }
def OpeningShiftsUptoSaid : Prop := openingShiftsUptoRow.holds Tryz.pinned (OpenSpec.upto openingShiftsSpec)

/-- 'civiltimelaw27.OpeningStaff', WHERE WHAT IT READS IS OF BULK AT MOST 1048576: true; the input reads as it did. -/
def openingStaffUptoRow : OpenClaim := { program := "ytmfdnbfjdhlonaagreatdoor", sum := "8212df562d6fb677f1dc5fe42d718856b6a55c09e6009ec1b7df04acc528615a", func := "civiltime/civiltimelaw27.OpeningStaff", spec := "openingStaff", inPlace := ["internal/bytealg.CountString", "internal/bytealg.IndexByteString", "internal/bytealg.IndexString", "internal/abi.NoEscape", "internal/bytealg.MakeNoZero"], unfollowed := true, recurses := true, named := ["unicode/utf8.first", "unicode/utf8.acceptRanges", "internal/bytealg.MaxLen"], apart := false, laid := [("unicode/utf8.acceptRanges", laid_unicode_utf8_acceptRanges), ("unicode/utf8.first", laid_unicode_utf8_first)], narrowed := true }
def OpeningStaffUptoSaid : Prop := openingStaffUptoRow.holds Tryz.pinned (OpenSpec.upto openingStaffSpec)

/-- 'civiltimelaw27.OpeningTexts', WHERE WHAT IT READS IS OF BULK AT MOST 1048576: true; the input reads as it did. -/
def openingTextsUptoRow : OpenClaim := { program := "ytmfdnbfjdhlonaagreatdoor", sum := "8212df562d6fb677f1dc5fe42d718856b6a55c09e6009ec1b7df04acc528615a", func := "civiltime/civiltimelaw27.OpeningTexts", spec := "openingTexts", inPlace := ["internal/bytealg.CountString", "internal/bytealg.IndexByteString", "internal/bytealg.IndexString", "internal/abi.NoEscape", "internal/bytealg.MakeNoZero"], unfollowed := true, recurses := true, named := ["unicode/utf8.first", "unicode/utf8.acceptRanges", "internal/bytealg.MaxLen"], apart := false, laid := [("unicode/utf8.acceptRanges", laid_unicode_utf8_acceptRanges), ("unicode/utf8.first", laid_unicode_utf8_first)], narrowed := true }
def OpeningTextsUptoSaid : Prop := openingTextsUptoRow.holds Tryz.pinned (OpenSpec.upto openingTextsSpec)

/-- 'civiltimelaw27.OpeningBack', WHERE WHAT IT READS IS OF BULK AT MOST 1048576: true; the input reads as it did. -/
def openingBackUptoRow : OpenClaim := { program := "ytmfdnbfjdhlonaagreatdoor", sum := "8212df562d6fb677f1dc5fe42d718856b6a55c09e6009ec1b7df04acc528615a", func := "civiltime/civiltimelaw27.OpeningBack", spec := "openingBack", inPlace := ["internal/bytealg.CountString", "internal/bytealg.IndexByteString", "internal/bytealg.IndexString", "internal/abi.NoEscape", "internal/bytealg.MakeNoZero"], unfollowed := true, recurses := true, named := ["unicode/utf8.first", "unicode/utf8.acceptRanges", "internal/bytealg.MaxLen"], apart := false, laid := [("unicode/utf8.acceptRanges", laid_unicode_utf8_acceptRanges), ("unicode/utf8.first", laid_unicode_utf8_first)], narrowed := true }
def OpeningBackUptoSaid : Prop := openingBackUptoRow.holds Tryz.pinned (OpenSpec.upto openingBackSpec)

end Rows
end Go.Proofs.YtmfdnbfjdhlonaaGreatDoor
