/-
  DERIVED. GIVEN WITH THE SEED: THE CARDS: each row of YtlbglinpgjlbkaaDoorRows.lean that lists a variable, with what it lists TIED to the program's text (the seventh form; the later family's looks); each row that meets fmt, with fmt's text TOLD by the authors' own Lean function (tested against real Go, not proved from fmt's source: count such statements apart). THE CARD IS WHAT COUNTS. Prove the row's statement (the work); the ties are given (YtlbglinpgjlbkaaDoorTie.lean); close each card by the builder's one call (the guide's Derived/Test/ToyasCard.lean, 'card_holds'). Laid BY PROGRAM, IN A SANDBOX (cutbox-door.mjs). By AI agents, Wed Nov 11 2026. No macro, syntax, notation, axiom, sorry.
-/
import Derived.Test.YtlbglinpgjlbkaaDoorRows
import GoSem.ClaimSeven
namespace Go.Proofs.YtlbglinpgjlbkaaDoor
namespace Rows

/-- THE TIED CARD OF 'civiltimelaw19.ZonetextPlaces'. -/
def zonetextPlacesCard : Claim7 := { stood := { row := zonetextPlacesRow, standIns := [], harness := (true, "24017cf0705775667b6daa33ba38453d5945785be970bfffeae9c60436a969b5"), looks := false }, kinds := [], alts := [], laidByText := true, laidKinds := [.data, .pinned], laidTests := true, laidLooks := .later }
def ZonetextPlacesCardSaid : Prop := Claim7.holds Tryd.pinned (.plain (OpenSpec.ofChange zonetextPlacesSpec)) zonetextPlacesCard

/-- THE TIED CARD OF 'civiltimelaw19.ZonetextBlanks'. -/
def zonetextBlanksCard : Claim7 := { stood := { row := zonetextBlanksRow, standIns := [], harness := (true, "24017cf0705775667b6daa33ba38453d5945785be970bfffeae9c60436a969b5"), looks := false }, kinds := [], alts := [], laidByText := true, laidKinds := [.data, .pinned], laidTests := true, laidLooks := .later }
def ZonetextBlanksCardSaid : Prop := Claim7.holds Tryd.pinned (.plain (OpenSpec.ofChange zonetextBlanksSpec)) zonetextBlanksCard

/-- THE SECOND FORM's CARD OF 'civiltimelaw19.ZonetextPlaces'. -/
def zonetextPlacesUptoCard : Claim7 := { stood := { row := zonetextPlacesUptoRow, standIns := [], harness := (true, "24017cf0705775667b6daa33ba38453d5945785be970bfffeae9c60436a969b5"), looks := false }, kinds := [], alts := [], laidByText := true, laidKinds := [.data, .pinned], laidTests := true, laidLooks := .later }
def ZonetextPlacesUptoCardSaid : Prop := Claim7.holds Tryd.pinned (.plain (OpenSpec.upto zonetextPlacesSpec)) zonetextPlacesUptoCard

/-- THE SECOND FORM's CARD OF 'civiltimelaw19.ZonetextBlanks'. -/
def zonetextBlanksUptoCard : Claim7 := { stood := { row := zonetextBlanksUptoRow, standIns := [], harness := (true, "24017cf0705775667b6daa33ba38453d5945785be970bfffeae9c60436a969b5"), looks := false }, kinds := [], alts := [], laidByText := true, laidKinds := [.data, .pinned], laidTests := true, laidLooks := .later }
def ZonetextBlanksUptoCardSaid : Prop := Claim7.holds Tryd.pinned (.plain (OpenSpec.upto zonetextBlanksSpec)) zonetextBlanksUptoCard
end Rows
end Go.Proofs.YtlbglinpgjlbkaaDoor
