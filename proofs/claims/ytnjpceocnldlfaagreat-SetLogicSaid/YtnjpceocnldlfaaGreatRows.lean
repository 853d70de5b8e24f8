/-
  No cell of these rows narrows 'for every input' (looked for: loops, veiled, ifaces, maps, wideKeys, modest, calm, conditions, laid).
  DERIVED. THE GIVEN ROWS OF THIS SEAT. 11 by the template 'for every input the law returns true; each argument reads behind the call as it read before'; 0 by the template 'total and deterministic' (their statements: YtnjpceocnldlfaaGreatTotals.lean).
  GIVEN WITH THE SEED: the statements are not yours to turn. If you find one false, say at which input.
  Laid BY PROGRAM, IN A SANDBOX (cutbox-rows.mjs): the forced cells as the released guide's own fill.sh prints them over the translation 0593996ef79021a7… (all of the seat's roots in one cut). By AI agents, Wed Nov 11 2026. No macro, syntax, notation, axiom, sorry.
-/
import Derived.Test.YtnjpceocnldlfaaGreatChecked
import GoSem.Claim
import GoSem.ClaimJoined
import GoSem.ClaimMapViews
import Derived.JoinedTies
import Derived.KernelRfl
namespace Go.Proofs.YtnjpceocnldlfaaGreat
/- THE CELL 'sum', in the pinned program and in every row, IS THE sha256 OF THE DUMP (.gsa) THAT YtnjpceocnldlfaaGreatProg.lean LOADS. Nothing in Lean hashes anything: it is a label: what it is worth is what the hold of that sum in a sandbox is worth. -/
noncomputable def Tryz.pinned : Pinned := { name := "ytnjpceocnldlfaagreat", sum := "0593996ef79021a7f9bd56f58dfee5ec4f614b26d5ecc1d22a8dfa00693a2fa9", checked := Tryz.checked }
namespace Rows
def none {H : Type} : Left H := { results := [], args := [] }

/-- 'civiltimelaw14.SetForms': WHATEVER THE INPUT: true; the input reads as it did. -/
def setFormsSpec : ChangeSpec := { name := "setForms", fn := fun _ => fun
  | [d1, d2, d3] => { results := [.lit (.bool true)], args := [d1, d2, d3] }
  | _ => none }
def setFormsRow : OpenClaim := { program := "ytnjpceocnldlfaagreat", sum := "0593996ef79021a7f9bd56f58dfee5ec4f614b26d5ecc1d22a8dfa00693a2fa9", func := "civiltime/civiltimelaw14.SetForms", spec := "setForms", unfollowed := true, recurses := true, apart := false }
def SetFormsSaid : Prop := setFormsRow.holds Tryz.pinned (OpenSpec.ofChange setFormsSpec)

/-- ITS FALSE NEIGHBOUR: 'it returns false'. Refute it at one input. -/
def setFormsWrong : ChangeSpec := { name := "setForms", fn := fun _ => fun
  | [d1, d2, d3] => { results := [.lit (.bool false)], args := [d1, d2, d3] }
  | _ => none }
def SetFormsWrongFalsely : Prop := setFormsRow.holds Tryz.pinned (OpenSpec.ofChange setFormsWrong)

/-- 'civiltimelaw14.SetWindows': WHATEVER THE INPUT: true; the input reads as it did. -/
def setWindowsSpec : ChangeSpec := { name := "setWindows", fn := fun _ => fun
  | [d1, d2] => { results := [.lit (.bool true)], args := [d1, d2] }
  | _ => none }
def setWindowsRow : OpenClaim := { program := "ytnjpceocnldlfaagreat", sum := "0593996ef79021a7f9bd56f58dfee5ec4f614b26d5ecc1d22a8dfa00693a2fa9", func := "civiltime/civiltimelaw14.SetWindows", spec := "setWindows", unfollowed := true, recurses := true, apart := false }
def SetWindowsSaid : Prop := setWindowsRow.holds Tryz.pinned (OpenSpec.ofChange setWindowsSpec)

/-- ITS FALSE NEIGHBOUR: 'it returns false'. Refute it at one input. -/
def setWindowsWrong : ChangeSpec := { name := "setWindows", fn := fun _ => fun
  | [d1, d2] => { results := [.lit (.bool false)], args := [d1, d2] }
  | _ => none }
def SetWindowsWrongFalsely : Prop := setWindowsRow.holds Tryz.pinned (OpenSpec.ofChange setWindowsWrong)

/-- 'civiltimelaw14.SetRuns': WHATEVER THE INPUT: true; the input reads as it did. -/
def setRunsSpec : ChangeSpec := { name := "setRuns", fn := fun _ => fun
  | [d1, d2, d3, d4, d5] => { results := [.lit (.bool true)], args := [d1, d2, d3, d4, d5] }
  | _ => none }
def setRunsRow : OpenClaim := { program := "ytnjpceocnldlfaagreat", sum := "0593996ef79021a7f9bd56f58dfee5ec4f614b26d5ecc1d22a8dfa00693a2fa9", func := "civiltime/civiltimelaw14.SetRuns", spec := "setRuns", unfollowed := true, recurses := true, apart := false }
def SetRunsSaid : Prop := setRunsRow.holds Tryz.pinned (OpenSpec.ofChange setRunsSpec)

/-- ITS FALSE NEIGHBOUR: 'it returns false'. Refute it at one input. -/
def setRunsWrong : ChangeSpec := { name := "setRuns", fn := fun _ => fun
  | [d1, d2, d3, d4, d5] => { results := [.lit (.bool false)], args := [d1, d2, d3, d4, d5] }
  | _ => none }
def SetRunsWrongFalsely : Prop := setRunsRow.holds Tryz.pinned (OpenSpec.ofChange setRunsWrong)

/-- 'civiltimelaw14.SetPure': WHATEVER THE INPUT: true; the input reads as it did. -/
def setPureSpec : ChangeSpec := { name := "setPure", fn := fun _ => fun
  | [d1, d2] => { results := [.lit (.bool true)], args := [d1, d2] }
  | _ => none }
def setPureRow : OpenClaim := { program := "ytnjpceocnldlfaagreat", sum := "0593996ef79021a7f9bd56f58dfee5ec4f614b26d5ecc1d22a8dfa00693a2fa9", func := "civiltime/civiltimelaw14.SetPure", spec := "setPure", unfollowed := true, recurses := true, apart := false }
def SetPureSaid : Prop := setPureRow.holds Tryz.pinned (OpenSpec.ofChange setPureSpec)

/-- ITS FALSE NEIGHBOUR: 'it returns false'. Refute it at one input. -/
def setPureWrong : ChangeSpec := { name := "setPure", fn := fun _ => fun
  | [d1, d2] => { results := [.lit (.bool false)], args := [d1, d2] }
  | _ => none }
def SetPureWrongFalsely : Prop := setPureRow.holds Tryz.pinned (OpenSpec.ofChange setPureWrong)

/-- 'civiltimelaw14.SetLists': WHATEVER THE INPUT: true; the input reads as it did. -/
def setListsSpec : ChangeSpec := { name := "setLists", fn := fun _ => fun
  | [d1, d2, d3, d4] => { results := [.lit (.bool true)], args := [d1, d2, d3, d4] }
  | _ => none }
def setListsRow : OpenClaim := { program := "ytnjpceocnldlfaagreat", sum := "0593996ef79021a7f9bd56f58dfee5ec4f614b26d5ecc1d22a8dfa00693a2fa9", func := "civiltime/civiltimelaw14.SetLists", spec := "setLists", unfollowed := true, recurses := true, apart := false }
def SetListsSaid : Prop := setListsRow.holds Tryz.pinned (OpenSpec.ofChange setListsSpec)

/-- ITS FALSE NEIGHBOUR: 'it returns false'. Refute it at one input. -/
def setListsWrong : ChangeSpec := { name := "setLists", fn := fun _ => fun
  | [d1, d2, d3, d4] => { results := [.lit (.bool false)], args := [d1, d2, d3, d4] }
  | _ => none }
def SetListsWrongFalsely : Prop := setListsRow.holds Tryz.pinned (OpenSpec.ofChange setListsWrong)

/-- 'civiltimelaw14.SetNeighbours': WHATEVER THE INPUT: true; the input reads as it did. -/
def setNeighboursSpec : ChangeSpec := { name := "setNeighbours", fn := fun _ => fun
  | [d1, d2] => { results := [.lit (.bool true)], args := [d1, d2] }
  | _ => none }
def setNeighboursRow : OpenClaim := { program := "ytnjpceocnldlfaagreat", sum := "0593996ef79021a7f9bd56f58dfee5ec4f614b26d5ecc1d22a8dfa00693a2fa9", func := "civiltime/civiltimelaw14.SetNeighbours", spec := "setNeighbours", inPlace := ["slices.overlaps[int]"], unfollowed := true, recurses := true, apart := false }
def SetNeighboursSaid : Prop := setNeighboursRow.holds Tryz.pinned (OpenSpec.ofChange setNeighboursSpec)

/-- ITS FALSE NEIGHBOUR: 'it returns false'. Refute it at one input. -/
def setNeighboursWrong : ChangeSpec := { name := "setNeighbours", fn := fun _ => fun
  | [d1, d2] => { results := [.lit (.bool false)], args := [d1, d2] }
  | _ => none }
def SetNeighboursWrongFalsely : Prop := setNeighboursRow.holds Tryz.pinned (OpenSpec.ofChange setNeighboursWrong)

/-- 'civiltimelaw14.SetWalks': WHATEVER THE INPUT: true; the input reads as it did. -/
def setWalksSpec : ChangeSpec := { name := "setWalks", fn := fun _ => fun
  | [d1, d2, d3] => { results := [.lit (.bool true)], args := [d1, d2, d3] }
  | _ => none }
def setWalksRow : OpenClaim := { program := "ytnjpceocnldlfaagreat", sum := "0593996ef79021a7f9bd56f58dfee5ec4f614b26d5ecc1d22a8dfa00693a2fa9", func := "civiltime/civiltimelaw14.SetWalks", spec := "setWalks", inPlace := ["slices.overlaps[int]"], unfollowed := true, recurses := true, apart := false }
def SetWalksSaid : Prop := setWalksRow.holds Tryz.pinned (OpenSpec.ofChange setWalksSpec)

/-- ITS FALSE NEIGHBOUR: 'it returns false'. Refute it at one input. -/
def setWalksWrong : ChangeSpec := { name := "setWalks", fn := fun _ => fun
  | [d1, d2, d3] => { results := [.lit (.bool false)], args := [d1, d2, d3] }
  | _ => none }
def SetWalksWrongFalsely : Prop := setWalksRow.holds Tryz.pinned (OpenSpec.ofChange setWalksWrong)

/-- 'civiltimelaw14.SetUnique': WHATEVER THE INPUT: true; the input reads as it did. -/
def setUniqueSpec : ChangeSpec := { name := "setUnique", fn := fun _ => fun
  | [d1, d2, d3] => { results := [.lit (.bool true)], args := [d1, d2, d3] }
  | _ => none }
def setUniqueRow : OpenClaim := { program := "ytnjpceocnldlfaagreat", sum := "0593996ef79021a7f9bd56f58dfee5ec4f614b26d5ecc1d22a8dfa00693a2fa9", func := "civiltime/civiltimelaw14.SetUnique", spec := "setUnique", unfollowed := true, recurses := true, apart := false }
def SetUniqueSaid : Prop := setUniqueRow.holds Tryz.pinned (OpenSpec.ofChange setUniqueSpec)

/-- ITS FALSE NEIGHBOUR: 'it returns false'. Refute it at one input. -/
def setUniqueWrong : ChangeSpec := { name := "setUnique", fn := fun _ => fun
  | [d1, d2, d3] => { results := [.lit (.bool false)], args := [d1, d2, d3] }
  | _ => none }
def SetUniqueWrongFalsely : Prop := setUniqueRow.holds Tryz.pinned (OpenSpec.ofChange setUniqueWrong)

/-- 'civiltimelaw14.SetLogic': WHATEVER THE INPUT: true; the input reads as it did. -/
def setLogicSpec : ChangeSpec := { name := "setLogic", fn := fun _ => fun
  | [d1, d2, d3] => { results := [.lit (.bool true)], args := [d1, d2, d3] }
  | _ => none }
def setLogicRow : OpenClaim := { program := "ytnjpceocnldlfaagreat", sum := "0593996ef79021a7f9bd56f58dfee5ec4f614b26d5ecc1d22a8dfa00693a2fa9", func := "civiltime/civiltimelaw14.SetLogic", spec := "setLogic", unfollowed := true, recurses := true, apart := false }
def SetLogicSaid : Prop := setLogicRow.holds Tryz.pinned (OpenSpec.ofChange setLogicSpec)

/-- ITS FALSE NEIGHBOUR: 'it returns false'. Refute it at one input. -/
def setLogicWrong : ChangeSpec := { name := "setLogic", fn := fun _ => fun
  | [d1, d2, d3] => { results := [.lit (.bool false)], args := [d1, d2, d3] }
  | _ => none }
def SetLogicWrongFalsely : Prop := setLogicRow.holds Tryz.pinned (OpenSpec.ofChange setLogicWrong)

/-- 'civiltimelaw14.SetChanges': WHATEVER THE INPUT: true; the input reads as it did. -/
def setChangesSpec : ChangeSpec := { name := "setChanges", fn := fun _ => fun
  | [d1, d2] => { results := [.lit (.bool true)], args := [d1, d2] }
  | _ => none }
def setChangesRow : OpenClaim := { program := "ytnjpceocnldlfaagreat", sum := "0593996ef79021a7f9bd56f58dfee5ec4f614b26d5ecc1d22a8dfa00693a2fa9", func := "civiltime/civiltimelaw14.SetChanges", spec := "setChanges", unfollowed := true, recurses := true, apart := false }
def SetChangesSaid : Prop := setChangesRow.holds Tryz.pinned (OpenSpec.ofChange setChangesSpec)

/-- ITS FALSE NEIGHBOUR: 'it returns false'. Refute it at one input. -/
def setChangesWrong : ChangeSpec := { name := "setChanges", fn := fun _ => fun
  | [d1, d2] => { results := [.lit (.bool false)], args := [d1, d2] }
  | _ => none }
def SetChangesWrongFalsely : Prop := setChangesRow.holds Tryz.pinned (OpenSpec.ofChange setChangesWrong)

/-- 'civiltimelaw14.SetPoints': WHATEVER THE INPUT: true; the input reads as it did. -/
def setPointsSpec : ChangeSpec := { name := "setPoints", fn := fun _ => fun
  | [d1, d2, d3, d4] => { results := [.lit (.bool true)], args := [d1, d2, d3, d4] }
  | _ => none }
def setPointsRow : OpenClaim := { program := "ytnjpceocnldlfaagreat", sum := "0593996ef79021a7f9bd56f58dfee5ec4f614b26d5ecc1d22a8dfa00693a2fa9", func := "civiltime/civiltimelaw14.SetPoints", spec := "setPoints", unfollowed := true, recurses := true, apart := false }
def SetPointsSaid : Prop := setPointsRow.holds Tryz.pinned (OpenSpec.ofChange setPointsSpec)

/-- ITS FALSE NEIGHBOUR: 'it returns false'. Refute it at one input. -/
def setPointsWrong : ChangeSpec := { name := "setPoints", fn := fun _ => fun
  | [d1, d2, d3, d4] => { results := [.lit (.bool false)], args := [d1, d2, d3, d4] }
  | _ => none }
def SetPointsWrongFalsely : Prop := setPointsRow.holds Tryz.pinned (OpenSpec.ofChange setPointsWrong)

/- THE SECOND FORM. 'bulk': how many values and letters a reading holds, each counted each time it is reached (what is shared counts as often as it is met; a slice's spare places count too). A statement '..UptoSaid' is the law's where the arguments, and the package variables that the reading takes, are together of bulk at most 1048576: NARROWER than '..Said'. Prove '..Said' where nothing that the law and all that it calls make is longer than what came in: it says more and counts as full. Else prove '..UptoSaid'. A law counts once. -/
mutual
def uptoBulk {H : Type} : DataW H → Nat
  | .lit (.string bytes) => bytes.length + 1
  | .lit _ => 1
  | .nil => 1
  | .ptr d => uptoBulk d + 1
  | .slice elems spare => uptoBulkAll elems + uptoBulkAll spare + 1
  | .agg parts => uptoBulkAll parts + 1
  | .iface _ d => uptoBulk d + 1
  | .map entries => uptoBulkEntries entries + 1
  | .held _ => 1
def uptoBulkAll {H : Type} : List (DataW H) → Nat
  | [] => 0
  | d :: r => uptoBulk d + uptoBulkAll r
def uptoBulkEntries {H : Type} : List (Lit × DataW H) → Nat
  | [] => 0
  | x :: r => uptoBulkEntry x + uptoBulkEntries r
def uptoBulkEntry {H : Type} : Lit × DataW H → Nat
  | (.string bytes, d) => bytes.length + uptoBulk d + 1
  | (_, d) => uptoBulk d + 1
 end
def uptoSmall : (H : Type) → List (DataW H) → Bool := fun _ ds => decide (uptoBulkAll ds ≤ 1048576)
def OpenSpec.upto (s : _root_.Go.ChangeSpec) : _root_.Go.OpenSpec := { _root_.Go.OpenSpec.ofChange s with cond := some uptoSmall }

/-- 'civiltimelaw14.SetForms', WHERE WHAT IT READS IS OF BULK AT MOST 1048576: true; the input reads as it did. -/
def setFormsUptoRow : OpenClaim := { program := "ytnjpceocnldlfaagreat", sum := "0593996ef79021a7f9bd56f58dfee5ec4f614b26d5ecc1d22a8dfa00693a2fa9", func := "civiltime/civiltimelaw14.SetForms", spec := "setForms", unfollowed := true, recurses := true, apart := false, narrowed := true }
def SetFormsUptoSaid : Prop := setFormsUptoRow.holds Tryz.pinned (OpenSpec.upto setFormsSpec)

/-- 'civiltimelaw14.SetWindows', WHERE WHAT IT READS IS OF BULK AT MOST 1048576: true; the input reads as it did. -/
def setWindowsUptoRow : OpenClaim := { program := "ytnjpceocnldlfaagreat", sum := "0593996ef79021a7f9bd56f58dfee5ec4f614b26d5ecc1d22a8dfa00693a2fa9", func := "civiltime/civiltimelaw14.SetWindows", spec := "setWindows", unfollowed := true, recurses := true, apart := false, narrowed := true }
def SetWindowsUptoSaid : Prop := setWindowsUptoRow.holds Tryz.pinned (OpenSpec.upto setWindowsSpec)

/-- 'civiltimelaw14.SetRuns', WHERE WHAT IT READS IS OF BULK AT MOST 1048576: true; the input reads as it did. -/
def setRunsUptoRow : OpenClaim := { program := "ytnjpceocnldlfaagreat", sum := "0593996ef79021a7f9bd56f58dfee5ec4f614b26d5ecc1d22a8dfa00693a2fa9", func := "civiltime/civiltimelaw14.SetRuns", spec := "setRuns", unfollowed := true, recurses := true, apart := false, narrowed := true }
def SetRunsUptoSaid : Prop := setRunsUptoRow.holds Tryz.pinned (OpenSpec.upto setRunsSpec)

/-- 'civiltimelaw14.SetPure', WHERE WHAT IT READS IS OF BULK AT MOST 1048576: true; the input reads as it did. -/
def setPureUptoRow : OpenClaim := { program := "ytnjpceocnldlfaagreat", sum := "0593996ef79021a7f9bd56f58dfee5ec4f614b26d5ecc1d22a8dfa00693a2fa9", func := "civiltime/civiltimelaw14.SetPure", spec := "setPure", unfollowed := true, recurses := true, apart := false, narrowed := true }
def SetPureUptoSaid : Prop := setPureUptoRow.holds Tryz.pinned (OpenSpec.upto setPureSpec)

/-- 'civiltimelaw14.SetLists', WHERE WHAT IT READS IS OF BULK AT MOST 1048576: true; the input reads as it did. -/
def setListsUptoRow : OpenClaim := { program := "ytnjpceocnldlfaagreat", sum := "0593996ef79021a7f9bd56f58dfee5ec4f614b26d5ecc1d22a8dfa00693a2fa9", func := "civiltime/civiltimelaw14.SetLists", spec := "setLists", unfollowed := true, recurses := true, apart := false, narrowed := true }
def SetListsUptoSaid : Prop := setListsUptoRow.holds Tryz.pinned (OpenSpec.upto setListsSpec)

/-- 'civiltimelaw14.SetNeighbours', WHERE WHAT IT READS IS OF BULK AT MOST 1048576: true; the input reads as it did. -/
def setNeighboursUptoRow : OpenClaim := { program := "ytnjpceocnldlfaagreat", sum := "0593996ef79021a7f9bd56f58dfee5ec4f614b26d5ecc1d22a8dfa00693a2fa9", func := "civiltime/civiltimelaw14.SetNeighbours", spec := "setNeighbours", inPlace := ["slices.overlaps[int]"], unfollowed := true, recurses := true, apart := false, narrowed := true }
def SetNeighboursUptoSaid : Prop := setNeighboursUptoRow.holds Tryz.pinned (OpenSpec.upto setNeighboursSpec)

/-- 'civiltimelaw14.SetWalks', WHERE WHAT IT READS IS OF BULK AT MOST 1048576: true; the input reads as it did. -/
def setWalksUptoRow : OpenClaim := { program := "ytnjpceocnldlfaagreat", sum := "0593996ef79021a7f9bd56f58dfee5ec4f614b26d5ecc1d22a8dfa00693a2fa9", func := "civiltime/civiltimelaw14.SetWalks", spec := "setWalks", inPlace := ["slices.overlaps[int]"], unfollowed := true, recurses := true, apart := false, narrowed := true }
def SetWalksUptoSaid : Prop := setWalksUptoRow.holds Tryz.pinned (OpenSpec.upto setWalksSpec)

/-- 'civiltimelaw14.SetUnique', WHERE WHAT IT READS IS OF BULK AT MOST 1048576: true; the input reads as it did. -/
def setUniqueUptoRow : OpenClaim := { program := "ytnjpceocnldlfaagreat", sum := "0593996ef79021a7f9bd56f58dfee5ec4f614b26d5ecc1d22a8dfa00693a2fa9", func := "civiltime/civiltimelaw14.SetUnique", spec := "setUnique", unfollowed := true, recurses := true, apart := false, narrowed := true }
def SetUniqueUptoSaid : Prop := setUniqueUptoRow.holds Tryz.pinned (OpenSpec.upto setUniqueSpec)

/-- 'civiltimelaw14.SetLogic', WHERE WHAT IT READS IS OF BULK AT MOST 1048576: true; the input reads as it did. -/
def setLogicUptoRow : OpenClaim := { program := "ytnjpceocnldlfaagreat", sum := "0593996ef79021a7f9bd56f58dfee5ec4f614b26d5ecc1d22a8dfa00693a2fa9", func := "civiltime/civiltimelaw14.SetLogic", spec := "setLogic", unfollowed := true, recurses := true, apart := false, narrowed := true }
def SetLogicUptoSaid : Prop := setLogicUptoRow.holds Tryz.pinned (OpenSpec.upto setLogicSpec)

/-- 'civiltimelaw14.SetChanges', WHERE WHAT IT READS IS OF BULK AT MOST 1048576: true; the input reads as it did. -/
def setChangesUptoRow : OpenClaim := { program := "ytnjpceocnldlfaagreat", sum := "0593996ef79021a7f9bd56f58dfee5ec4f614b26d5ecc1d22a8dfa00693a2fa9", func := "civiltime/civiltimelaw14.SetChanges", spec := "setChanges", unfollowed := true, recurses := true, apart := false, narrowed := true }
def SetChangesUptoSaid : Prop := setChangesUptoRow.holds Tryz.pinned (OpenSpec.upto setChangesSpec)

/-- 'civiltimelaw14.SetPoints', WHERE WHAT IT READS IS OF BULK AT MOST 1048576: true; the input reads as it did. -/
def setPointsUptoRow : OpenClaim := { program := "ytnjpceocnldlfaagreat", sum := "0593996ef79021a7f9bd56f58dfee5ec4f614b26d5ecc1d22a8dfa00693a2fa9", func := "civiltime/civiltimelaw14.SetPoints", spec := "setPoints", unfollowed := true, recurses := true, apart := false, narrowed := true }
def SetPointsUptoSaid : Prop := setPointsUptoRow.holds Tryz.pinned (OpenSpec.upto setPointsSpec)

end Rows
end Go.Proofs.YtnjpceocnldlfaaGreat
