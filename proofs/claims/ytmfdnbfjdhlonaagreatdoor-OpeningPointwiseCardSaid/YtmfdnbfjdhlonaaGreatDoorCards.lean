/-
  DERIVED. GIVEN WITH THE SEED: THE CARDS: each row of YtmfdnbfjdhlonaaGreatDoorRows.lean that lists a variable, with what it lists TIED to the program's text (the seventh form; the later family's looks); each row that meets fmt, with fmt's text TOLD by the authors' own Lean function (tested against real Go, not proved from fmt's source: count such statements apart). THE CARD IS WHAT COUNTS. Prove the row's statement (the work); the ties are given (YtmfdnbfjdhlonaaGreatDoorTie.lean); close each card by the builder's one call (the guide's Derived/Test/ToyasCard.lean, 'card_holds'). Laid BY PROGRAM, IN A SANDBOX (cutbox-door.mjs). By AI agents, Wed Nov 11 2026. No macro, syntax, notation, axiom, sorry.
-/
import Derived.Test.YtmfdnbfjdhlonaaGreatDoorRows
import GoSem.ClaimSeven
namespace Go.Proofs.YtmfdnbfjdhlonaaGreatDoor
namespace Rows

/-- THE TIED CARD OF 'civiltimelaw27.OpeningWeeks'. -/
def openingWeeksCard : Claim7 := { stood := { row := openingWeeksRow, standIns := [], harness := (true, "8921a56265287e0ee9cf6effbe822ec0ce37be5b23c8fd3b3b408c5a6999ff98"), looks := false }, kinds := [], alts := [], laidByText := true, laidKinds := [.data, .pinned], laidTests := true, laidLooks := .later }
def OpeningWeeksCardSaid : Prop := Claim7.holds Tryz.pinned (.plain (OpenSpec.ofChange openingWeeksSpec)) openingWeeksCard

/-- THE TIED CARD OF 'civiltimelaw27.OpeningPointwise'. -/
def openingPointwiseCard : Claim7 := { stood := { row := openingPointwiseRow, standIns := [], harness := (true, "8921a56265287e0ee9cf6effbe822ec0ce37be5b23c8fd3b3b408c5a6999ff98"), looks := false }, kinds := [], alts := [], laidByText := true, laidKinds := [.data, .pinned], laidTests := true, laidLooks := .later }
def OpeningPointwiseCardSaid : Prop := Claim7.holds Tryz.pinned (.plain (OpenSpec.ofChange openingPointwiseSpec)) openingPointwiseCard

/-- THE TIED CARD OF 'civiltimelaw27.OpeningShifts'. -/
def openingShiftsCard : Claim7 := { stood := { row := openingShiftsRow, standIns := [], harness := (true, "8921a56265287e0ee9cf6effbe822ec0ce37be5b23c8fd3b3b408c5a6999ff98"), looks := false }, kinds := [], alts := [], laidByText := true, laidKinds := [.data, .pinned], laidTests := true, laidLooks := .later }
def OpeningShiftsCardSaid : Prop := Claim7.holds Tryz.pinned (.plain (OpenSpec.ofChange openingShiftsSpec)) openingShiftsCard

/-- THE TIED CARD OF 'civiltimelaw27.OpeningStaff'. -/
def openingStaffCard : Claim7 := { stood := { row := openingStaffRow, standIns := [], harness := (true, "8921a56265287e0ee9cf6effbe822ec0ce37be5b23c8fd3b3b408c5a6999ff98"), looks := false }, kinds := [], alts := [], laidByText := true, laidKinds := [.data, .pinned], laidTests := true, laidLooks := .later }
def OpeningStaffCardSaid : Prop := Claim7.holds Tryz.pinned (.plain (OpenSpec.ofChange openingStaffSpec)) openingStaffCard

/-- THE TIED CARD OF 'civiltimelaw27.OpeningTexts'. -/
def openingTextsCard : Claim7 := { stood := { row := openingTextsRow, standIns := [], harness := (true, "8921a56265287e0ee9cf6effbe822ec0ce37be5b23c8fd3b3b408c5a6999ff98"), looks := false }, kinds := [], alts := [], laidByText := true, laidKinds := [.data, .pinned], laidTests := true, laidLooks := .later }
def OpeningTextsCardSaid : Prop := Claim7.holds Tryz.pinned (.plain (OpenSpec.ofChange openingTextsSpec)) openingTextsCard

/-- THE TIED CARD OF 'civiltimelaw27.OpeningBack'. -/
def openingBackCard : Claim7 := { stood := { row := openingBackRow, standIns := [], harness := (true, "8921a56265287e0ee9cf6effbe822ec0ce37be5b23c8fd3b3b408c5a6999ff98"), looks := false }, kinds := [], alts := [], laidByText := true, laidKinds := [.data, .pinned], laidTests := true, laidLooks := .later }
def OpeningBackCardSaid : Prop := Claim7.holds Tryz.pinned (.plain (OpenSpec.ofChange openingBackSpec)) openingBackCard

/-- THE SECOND FORM's CARD OF 'civiltimelaw27.OpeningWeeks'. -/
def openingWeeksUptoCard : Claim7 := { stood := { row := openingWeeksUptoRow, standIns := [], harness := (true, "8921a56265287e0ee9cf6effbe822ec0ce37be5b23c8fd3b3b408c5a6999ff98"), looks := false }, kinds := [], alts := [], laidByText := true, laidKinds := [.data, .pinned], laidTests := true, laidLooks := .later }
def OpeningWeeksUptoCardSaid : Prop := Claim7.holds Tryz.pinned (.plain (OpenSpec.upto openingWeeksSpec)) openingWeeksUptoCard

/-- THE SECOND FORM's CARD OF 'civiltimelaw27.OpeningPointwise'. -/
def openingPointwiseUptoCard : Claim7 := { stood := { row := openingPointwiseUptoRow, standIns := [], harness := (true, "8921a56265287e0ee9cf6effbe822ec0ce37be5b23c8fd3b3b408c5a6999ff98"), looks := false }, kinds := [], alts := [], laidByText := true, laidKinds := [.data, .pinned], laidTests := true, laidLooks := .later }
def OpeningPointwiseUptoCardSaid : Prop := Claim7.holds Tryz.pinned (.plain (OpenSpec.upto openingPointwiseSpec)) openingPointwiseUptoCard

/-- THE SECOND FORM's CARD OF 'civiltimelaw27.OpeningShifts'. -/
def openingShiftsUptoCard : Claim7 := { stood := { row := openingShiftsUptoRow, standIns := [], harness := (true, "8921a56265287e0ee9cf6effbe822ec0ce37be5b23c8fd3b3b408c5a6999ff98"), looks := false }, kinds := [], alts := [], laidByText := true, laidKinds := [.data, .pinned], laidTests := true, laidLooks := .later }
def OpeningShiftsUptoCardSaid : Prop := Claim7.holds Tryz.pinned (.plain (OpenSpec.upto openingShiftsSpec)) openingShiftsUptoCard

/-- THE SECOND FORM's CARD OF 'civiltimelaw27.OpeningStaff'. -/
def openingStaffUptoCard : Claim7 := { stood := { row := openingStaffUptoRow, standIns := [], harness := (true, "8921a56265287e0ee9cf6effbe822ec0ce37be5b23c8fd3b3b408c5a6999ff98"), looks := false }, kinds := [], alts := [], laidByText := true, laidKinds := [.data, .pinned], laidTests := true, laidLooks := .later }
def OpeningStaffUptoCardSaid : Prop := Claim7.holds Tryz.pinned (.plain (OpenSpec.upto openingStaffSpec)) openingStaffUptoCard

/-- THE SECOND FORM's CARD OF 'civiltimelaw27.OpeningTexts'. -/
def openingTextsUptoCard : Claim7 := { stood := { row := openingTextsUptoRow, standIns := [], harness := (true, "8921a56265287e0ee9cf6effbe822ec0ce37be5b23c8fd3b3b408c5a6999ff98"), looks := false }, kinds := [], alts := [], laidByText := true, laidKinds := [.data, .pinned], laidTests := true, laidLooks := .later }
def OpeningTextsUptoCardSaid : Prop := Claim7.holds Tryz.pinned (.plain (OpenSpec.upto openingTextsSpec)) openingTextsUptoCard

/-- THE SECOND FORM's CARD OF 'civiltimelaw27.OpeningBack'. -/
def openingBackUptoCard : Claim7 := { stood := { row := openingBackUptoRow, standIns := [], harness := (true, "8921a56265287e0ee9cf6effbe822ec0ce37be5b23c8fd3b3b408c5a6999ff98"), looks := false }, kinds := [], alts := [], laidByText := true, laidKinds := [.data, .pinned], laidTests := true, laidLooks := .later }
def OpeningBackUptoCardSaid : Prop := Claim7.holds Tryz.pinned (.plain (OpenSpec.upto openingBackSpec)) openingBackUptoCard
end Rows
end Go.Proofs.YtmfdnbfjdhlonaaGreatDoor
