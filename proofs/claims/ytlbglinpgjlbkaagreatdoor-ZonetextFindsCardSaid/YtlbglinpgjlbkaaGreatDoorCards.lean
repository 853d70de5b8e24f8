/-
  DERIVED. GIVEN WITH THE SEED: THE CARDS: each row of YtlbglinpgjlbkaaGreatDoorRows.lean that lists a variable, with what it lists TIED to the program's text (the seventh form; the later family's looks); each row that meets fmt, with fmt's text TOLD by the authors' own Lean function (tested against real Go, not proved from fmt's source: count such statements apart). THE CARD IS WHAT COUNTS. Prove the row's statement (the work); the ties are given (YtlbglinpgjlbkaaGreatDoorTie.lean); close each card by the builder's one call (the guide's Derived/Test/ToyasCard.lean, 'card_holds'). Laid BY PROGRAM, IN A SANDBOX (cutbox-door.mjs). By AI agents, Wed Nov 11 2026. No macro, syntax, notation, axiom, sorry.
-/
import Derived.Test.YtlbglinpgjlbkaaGreatDoorRows
import GoSem.ClaimSeven
namespace Go.Proofs.YtlbglinpgjlbkaaGreatDoor
namespace Rows

/-- THE TIED CARD OF 'civiltimelaw19.ZonetextParses'. -/
def zonetextParsesCard : Claim7 := { stood := { row := zonetextParsesRow, standIns := [], harness := (true, "60803e88bfcc5a6c5a3a926c5fe5b4821109c83701c4ad140eacad4f2d9d5fd0"), looks := false }, kinds := [], alts := [], laidByText := true, laidKinds := [.data, .pinned], laidTests := true, laidLooks := .later }
def ZonetextParsesCardSaid : Prop := Claim7.holds Tryz.pinned (.plain (OpenSpec.ofChange zonetextParsesSpec)) zonetextParsesCard

/-- THE TIED CARD OF 'civiltimelaw19.ZonetextDivides'. -/
def zonetextDividesCard : Claim7 := { stood := { row := zonetextDividesRow, standIns := [], harness := (true, "60803e88bfcc5a6c5a3a926c5fe5b4821109c83701c4ad140eacad4f2d9d5fd0"), looks := false }, kinds := [], alts := [], laidByText := true, laidKinds := [.data, .pinned], laidTests := true, laidLooks := .later }
def ZonetextDividesCardSaid : Prop := Claim7.holds Tryz.pinned (.plain (OpenSpec.ofChange zonetextDividesSpec)) zonetextDividesCard

/-- THE TIED CARD OF 'civiltimelaw19.ZonetextFinds'. -/
def zonetextFindsCard : Claim7 := { stood := { row := zonetextFindsRow, standIns := [], harness := (true, "60803e88bfcc5a6c5a3a926c5fe5b4821109c83701c4ad140eacad4f2d9d5fd0"), looks := false }, kinds := [], alts := [], laidByText := true, laidKinds := [.data, .pinned], laidTests := true, laidLooks := .later }
def ZonetextFindsCardSaid : Prop := Claim7.holds Tryz.pinned (.plain (OpenSpec.ofChange zonetextFindsSpec)) zonetextFindsCard

/-- THE TIED CARD OF 'civiltimelaw19.ZonetextDays'. -/
def zonetextDaysCard : Claim7 := { stood := { row := zonetextDaysRow, standIns := [], harness := (true, "60803e88bfcc5a6c5a3a926c5fe5b4821109c83701c4ad140eacad4f2d9d5fd0"), looks := false }, kinds := [], alts := [], laidByText := true, laidKinds := [.data, .data, .data, .data, .pinned], laidTests := true, laidLooks := .later }
def ZonetextDaysCardSaid : Prop := Claim7.holds Tryz.pinned (.plain (OpenSpec.ofChange zonetextDaysSpec)) zonetextDaysCard

/-- THE TIED CARD OF 'civiltimelaw19.ZonetextTexts'. -/
def zonetextTextsCard : Claim7 := { stood := { row := zonetextTextsRow, standIns := [], harness := (true, "60803e88bfcc5a6c5a3a926c5fe5b4821109c83701c4ad140eacad4f2d9d5fd0"), looks := false }, kinds := [], alts := [], laidByText := true, laidKinds := [.data, .data, .data, .data, .pinned], laidTests := true, laidLooks := .later }
def ZonetextTextsCardSaid : Prop := Claim7.holds Tryz.pinned (.plain (OpenSpec.ofChange zonetextTextsSpec)) zonetextTextsCard

/-- THE TIED CARD OF 'civiltimelaw19.ZonetextCanonical'. -/
def zonetextCanonicalCard : Claim7 := { stood := { row := zonetextCanonicalRow, standIns := [], harness := (true, "60803e88bfcc5a6c5a3a926c5fe5b4821109c83701c4ad140eacad4f2d9d5fd0"), looks := false }, kinds := [], alts := [], laidByText := true, laidKinds := [.data, .data, .data, .data, .pinned], laidTests := true, laidLooks := .later }
def ZonetextCanonicalCardSaid : Prop := Claim7.holds Tryz.pinned (.plain (OpenSpec.ofChange zonetextCanonicalSpec)) zonetextCanonicalCard

/-- THE TIED CARD OF 'civiltimelaw19.ZonetextChecks'. -/
def zonetextChecksCard : Claim7 := { stood := { row := zonetextChecksRow, standIns := [], harness := (true, "60803e88bfcc5a6c5a3a926c5fe5b4821109c83701c4ad140eacad4f2d9d5fd0"), looks := false }, kinds := [], alts := [], laidByText := true, laidKinds := [.data, .pinned], laidTests := true, laidLooks := .later }
def ZonetextChecksCardSaid : Prop := Claim7.holds Tryz.pinned (.plain (OpenSpec.ofChange zonetextChecksSpec)) zonetextChecksCard

/-- THE TIED CARD OF 'civiltimelaw19.ZonetextBack'. -/
def zonetextBackCard : Claim7 := { stood := { row := zonetextBackRow, standIns := [], harness := (true, "60803e88bfcc5a6c5a3a926c5fe5b4821109c83701c4ad140eacad4f2d9d5fd0"), looks := false }, kinds := [], alts := [], laidByText := true, laidKinds := [.data, .data, .data, .data, .pinned], laidTests := true, laidLooks := .later }
def ZonetextBackCardSaid : Prop := Claim7.holds Tryz.pinned (.plain (OpenSpec.ofChange zonetextBackSpec)) zonetextBackCard

/-- THE SECOND FORM's CARD OF 'civiltimelaw19.ZonetextParses'. -/
def zonetextParsesUptoCard : Claim7 := { stood := { row := zonetextParsesUptoRow, standIns := [], harness := (true, "60803e88bfcc5a6c5a3a926c5fe5b4821109c83701c4ad140eacad4f2d9d5fd0"), looks := false }, kinds := [], alts := [], laidByText := true, laidKinds := [.data, .pinned], laidTests := true, laidLooks := .later }
def ZonetextParsesUptoCardSaid : Prop := Claim7.holds Tryz.pinned (.plain (OpenSpec.upto zonetextParsesSpec)) zonetextParsesUptoCard

/-- THE SECOND FORM's CARD OF 'civiltimelaw19.ZonetextDivides'. -/
def zonetextDividesUptoCard : Claim7 := { stood := { row := zonetextDividesUptoRow, standIns := [], harness := (true, "60803e88bfcc5a6c5a3a926c5fe5b4821109c83701c4ad140eacad4f2d9d5fd0"), looks := false }, kinds := [], alts := [], laidByText := true, laidKinds := [.data, .pinned], laidTests := true, laidLooks := .later }
def ZonetextDividesUptoCardSaid : Prop := Claim7.holds Tryz.pinned (.plain (OpenSpec.upto zonetextDividesSpec)) zonetextDividesUptoCard

/-- THE SECOND FORM's CARD OF 'civiltimelaw19.ZonetextFinds'. -/
def zonetextFindsUptoCard : Claim7 := { stood := { row := zonetextFindsUptoRow, standIns := [], harness := (true, "60803e88bfcc5a6c5a3a926c5fe5b4821109c83701c4ad140eacad4f2d9d5fd0"), looks := false }, kinds := [], alts := [], laidByText := true, laidKinds := [.data, .pinned], laidTests := true, laidLooks := .later }
def ZonetextFindsUptoCardSaid : Prop := Claim7.holds Tryz.pinned (.plain (OpenSpec.upto zonetextFindsSpec)) zonetextFindsUptoCard

/-- THE SECOND FORM's CARD OF 'civiltimelaw19.ZonetextDays'. -/
def zonetextDaysUptoCard : Claim7 := { stood := { row := zonetextDaysUptoRow, standIns := [], harness := (true, "60803e88bfcc5a6c5a3a926c5fe5b4821109c83701c4ad140eacad4f2d9d5fd0"), looks := false }, kinds := [], alts := [], laidByText := true, laidKinds := [.data, .data, .data, .data, .pinned], laidTests := true, laidLooks := .later }
def ZonetextDaysUptoCardSaid : Prop := Claim7.holds Tryz.pinned (.plain (OpenSpec.upto zonetextDaysSpec)) zonetextDaysUptoCard

/-- THE SECOND FORM's CARD OF 'civiltimelaw19.ZonetextTexts'. -/
def zonetextTextsUptoCard : Claim7 := { stood := { row := zonetextTextsUptoRow, standIns := [], harness := (true, "60803e88bfcc5a6c5a3a926c5fe5b4821109c83701c4ad140eacad4f2d9d5fd0"), looks := false }, kinds := [], alts := [], laidByText := true, laidKinds := [.data, .data, .data, .data, .pinned], laidTests := true, laidLooks := .later }
def ZonetextTextsUptoCardSaid : Prop := Claim7.holds Tryz.pinned (.plain (OpenSpec.upto zonetextTextsSpec)) zonetextTextsUptoCard

/-- THE SECOND FORM's CARD OF 'civiltimelaw19.ZonetextCanonical'. -/
def zonetextCanonicalUptoCard : Claim7 := { stood := { row := zonetextCanonicalUptoRow, standIns := [], harness := (true, "60803e88bfcc5a6c5a3a926c5fe5b4821109c83701c4ad140eacad4f2d9d5fd0"), looks := false }, kinds := [], alts := [], laidByText := true, laidKinds := [.data, .data, .data, .data, .pinned], laidTests := true, laidLooks := .later }
def ZonetextCanonicalUptoCardSaid : Prop := Claim7.holds Tryz.pinned (.plain (OpenSpec.upto zonetextCanonicalSpec)) zonetextCanonicalUptoCard

/-- THE SECOND FORM's CARD OF 'civiltimelaw19.ZonetextChecks'. -/
def zonetextChecksUptoCard : Claim7 := { stood := { row := zonetextChecksUptoRow, standIns := [], harness := (true, "60803e88bfcc5a6c5a3a926c5fe5b4821109c83701c4ad140eacad4f2d9d5fd0"), looks := false }, kinds := [], alts := [], laidByText := true, laidKinds := [.data, .pinned], laidTests := true, laidLooks := .later }
def ZonetextChecksUptoCardSaid : Prop := Claim7.holds Tryz.pinned (.plain (OpenSpec.upto zonetextChecksSpec)) zonetextChecksUptoCard

/-- THE SECOND FORM's CARD OF 'civiltimelaw19.ZonetextBack'. -/
def zonetextBackUptoCard : Claim7 := { stood := { row := zonetextBackUptoRow, standIns := [], harness := (true, "60803e88bfcc5a6c5a3a926c5fe5b4821109c83701c4ad140eacad4f2d9d5fd0"), looks := false }, kinds := [], alts := [], laidByText := true, laidKinds := [.data, .data, .data, .data, .pinned], laidTests := true, laidLooks := .later }
def ZonetextBackUptoCardSaid : Prop := Claim7.holds Tryz.pinned (.plain (OpenSpec.upto zonetextBackSpec)) zonetextBackUptoCard
end Rows
end Go.Proofs.YtlbglinpgjlbkaaGreatDoor
