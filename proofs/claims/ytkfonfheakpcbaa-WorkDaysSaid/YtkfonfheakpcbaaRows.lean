/-
  No cell of these rows narrows 'for every input' (looked for: loops, veiled, ifaces, maps, wideKeys, modest, calm, conditions, laid).
  DERIVED. THE GIVEN ROWS OF THIS SEAT. 5 by the template 'for every input the law returns true; each argument reads behind the call as it read before'; 0 by the template 'total and deterministic' (their statements: YtkfonfheakpcbaaTotals.lean).
  GIVEN WITH THE SEED: the statements are not yours to turn. If you find one false, say at which input.
  Laid BY PROGRAM, IN A SANDBOX (cutbox-rows.mjs): the forced cells as the released guide's own fill.sh prints them over the translation 2ed3b5240e0d2501… (all of the seat's roots in one cut). By AI agents, Wed Nov 11 2026. No macro, syntax, notation, axiom, sorry.
-/
import Derived.Test.YtkfonfheakpcbaaChecked
import GoSem.Claim
import GoSem.ClaimJoined
import GoSem.ClaimMapViews
import Derived.JoinedTies
import Derived.KernelRfl
namespace Go.Proofs.Ytkfonfheakpcbaa
/- THE CELL 'sum', in the pinned program and in every row, IS THE sha256 OF THE DUMP (.gsa) THAT YtkfonfheakpcbaaProg.lean LOADS. Nothing in Lean hashes anything: it is a label: what it is worth is what the hold of that sum in a sandbox is worth. -/
noncomputable def Try.pinned : Pinned := { name := "ytkfonfheakpcbaa", sum := "2ed3b5240e0d25012122ca2dcc4e49ac58292adab570cc20d0de1a9ff58783b4", checked := Try.checked }
namespace Rows
def none {H : Type} : Left H := { results := [], args := [] }

/-- 'civiltimelaw26.WorkDeadline': WHATEVER THE INPUT: true; the input reads as it did. -/
def workDeadlineSpec : ChangeSpec := { name := "workDeadline", fn := fun _ => fun
  | [d1, d2, d3, d4] => { results := [.lit (.bool true)], args := [d1, d2, d3, d4] }
  | _ => none }
def workDeadlineRow : OpenClaim := { program := "ytkfonfheakpcbaa", sum := "2ed3b5240e0d25012122ca2dcc4e49ac58292adab570cc20d0de1a9ff58783b4", func := "civiltime/civiltimelaw26.WorkDeadline", spec := "workDeadline", unfollowed := true, recurses := true, apart := false }
def WorkDeadlineSaid : Prop := workDeadlineRow.holds Try.pinned (OpenSpec.ofChange workDeadlineSpec)

/-- ITS FALSE NEIGHBOUR: 'it returns false'. Refute it at one input. -/
def workDeadlineWrong : ChangeSpec := { name := "workDeadline", fn := fun _ => fun
  | [d1, d2, d3, d4] => { results := [.lit (.bool false)], args := [d1, d2, d3, d4] }
  | _ => none }
def WorkDeadlineWrongFalsely : Prop := workDeadlineRow.holds Try.pinned (OpenSpec.ofChange workDeadlineWrong)

/-- 'civiltimelaw26.WorkShares': WHATEVER THE INPUT: true; the input reads as it did. -/
def workSharesSpec : ChangeSpec := { name := "workShares", fn := fun _ => fun
  | [d1, d2, d3] => { results := [.lit (.bool true)], args := [d1, d2, d3] }
  | _ => none }
def workSharesRow : OpenClaim := { program := "ytkfonfheakpcbaa", sum := "2ed3b5240e0d25012122ca2dcc4e49ac58292adab570cc20d0de1a9ff58783b4", func := "civiltime/civiltimelaw26.WorkShares", spec := "workShares", unfollowed := true, recurses := true, apart := false }
def WorkSharesSaid : Prop := workSharesRow.holds Try.pinned (OpenSpec.ofChange workSharesSpec)

/-- ITS FALSE NEIGHBOUR: 'it returns false'. Refute it at one input. -/
def workSharesWrong : ChangeSpec := { name := "workShares", fn := fun _ => fun
  | [d1, d2, d3] => { results := [.lit (.bool false)], args := [d1, d2, d3] }
  | _ => none }
def WorkSharesWrongFalsely : Prop := workSharesRow.holds Try.pinned (OpenSpec.ofChange workSharesWrong)

/-- 'civiltimelaw26.WorkUndone': WHATEVER THE INPUT: true; the input reads as it did. -/
def workUndoneSpec : ChangeSpec := { name := "workUndone", fn := fun _ => fun
  | [d1, d2, d3, d4] => { results := [.lit (.bool true)], args := [d1, d2, d3, d4] }
  | _ => none }
def workUndoneRow : OpenClaim := { program := "ytkfonfheakpcbaa", sum := "2ed3b5240e0d25012122ca2dcc4e49ac58292adab570cc20d0de1a9ff58783b4", func := "civiltime/civiltimelaw26.WorkUndone", spec := "workUndone", unfollowed := true, recurses := true, apart := false }
def WorkUndoneSaid : Prop := workUndoneRow.holds Try.pinned (OpenSpec.ofChange workUndoneSpec)

/-- ITS FALSE NEIGHBOUR: 'it returns false'. Refute it at one input. -/
def workUndoneWrong : ChangeSpec := { name := "workUndone", fn := fun _ => fun
  | [d1, d2, d3, d4] => { results := [.lit (.bool false)], args := [d1, d2, d3, d4] }
  | _ => none }
def WorkUndoneWrongFalsely : Prop := workUndoneRow.holds Try.pinned (OpenSpec.ofChange workUndoneWrong)

/-- 'civiltimelaw26.WorkReaches': WHATEVER THE INPUT: true; the input reads as it did. -/
def workReachesSpec : ChangeSpec := { name := "workReaches", fn := fun _ => fun
  | [d1, d2, d3] => { results := [.lit (.bool true)], args := [d1, d2, d3] }
  | _ => none }
def workReachesRow : OpenClaim := { program := "ytkfonfheakpcbaa", sum := "2ed3b5240e0d25012122ca2dcc4e49ac58292adab570cc20d0de1a9ff58783b4", func := "civiltime/civiltimelaw26.WorkReaches", spec := "workReaches", unfollowed := true, recurses := true, apart := false }
def WorkReachesSaid : Prop := workReachesRow.holds Try.pinned (OpenSpec.ofChange workReachesSpec)

/-- ITS FALSE NEIGHBOUR: 'it returns false'. Refute it at one input. -/
def workReachesWrong : ChangeSpec := { name := "workReaches", fn := fun _ => fun
  | [d1, d2, d3] => { results := [.lit (.bool false)], args := [d1, d2, d3] }
  | _ => none }
def WorkReachesWrongFalsely : Prop := workReachesRow.holds Try.pinned (OpenSpec.ofChange workReachesWrong)

/-- 'civiltimelaw26.WorkDays': WHATEVER THE INPUT: true; the input reads as it did. -/
def workDaysSpec : ChangeSpec := { name := "workDays", fn := fun _ => fun
  | [d1, d2, d3, d4] => { results := [.lit (.bool true)], args := [d1, d2, d3, d4] }
  | _ => none }
def workDaysRow : OpenClaim := { program := "ytkfonfheakpcbaa", sum := "2ed3b5240e0d25012122ca2dcc4e49ac58292adab570cc20d0de1a9ff58783b4", func := "civiltime/civiltimelaw26.WorkDays", spec := "workDays", unfollowed := true, recurses := true, apart := false }
def WorkDaysSaid : Prop := workDaysRow.holds Try.pinned (OpenSpec.ofChange workDaysSpec)

/-- ITS FALSE NEIGHBOUR: 'it returns false'. Refute it at one input. -/
def workDaysWrong : ChangeSpec := { name := "workDays", fn := fun _ => fun
  | [d1, d2, d3, d4] => { results := [.lit (.bool false)], args := [d1, d2, d3, d4] }
  | _ => none }
def WorkDaysWrongFalsely : Prop := workDaysRow.holds Try.pinned (OpenSpec.ofChange workDaysWrong)

/- THE SECOND FORM. 'bulk': how many values and letters a reading holds, each counted each time it is reached (what is shared counts as often as it is met; a slice's spare places count too). A statement '..UptoSaid' is the law's where the arguments, and the package variables that the reading takes, are together of bulk at most 1048576: NARROWER than '..Said'. Prove '..Said' where nothing that the law and all that it calls make is longer than what came in: it says more and counts as full. Else prove '..UptoSaid'. A law counts once. -/
mutual
def uptoBulk {H : Type} : DataW H → Nat
  | .lit (.string bytes) => bytes.length + 1
  | .lit _ => 1
  | .nil => 1
  | .ptr d => uptoBulk d + 1
  | .slice elems spare => uptoBulkAll elems + uptoBulkAll spare + 1
  | .agg parts => uptoBulkAll parts + 1
  | .iface _ d => uptoBulk d + 1
  | .map entries => uptoBulkEntries entries + 1
  | .held _ => 1
def uptoBulkAll {H : Type} : List (DataW H) → Nat
  | [] => 0
  | d :: r => uptoBulk d + uptoBulkAll r
def uptoBulkEntries {H : Type} : List (Lit × DataW H) → Nat
  | [] => 0
  | x :: r => uptoBulkEntry x + uptoBulkEntries r
def uptoBulkEntry {H : Type} : Lit × DataW H → Nat
  | (.string bytes, d) => bytes.length + uptoBulk d + 1
  | (_, d) => uptoBulk d + 1
 end
def uptoSmall : (H : Type) → List (DataW H) → Bool := fun _ ds => decide (uptoBulkAll ds ≤ 1048576)
def OpenSpec.upto (s : _root_.Go.ChangeSpec) : _root_.Go.OpenSpec := { _root_.Go.OpenSpec.ofChange s with cond := some uptoSmall }

/-- 'civiltimelaw26.WorkDeadline', WHERE WHAT IT READS IS OF BULK AT MOST 1048576: true; the input reads as it did. -/
def workDeadlineUptoRow : OpenClaim := { program := "ytkfonfheakpcbaa", sum := "2ed3b5240e0d25012122ca2dcc4e49ac58292adab570cc20d0de1a9ff58783b4", func := "civiltime/civiltimelaw26.WorkDeadline", spec := "workDeadline", unfollowed := true, recurses := true, apart := false, narrowed := true }
def WorkDeadlineUptoSaid : Prop := workDeadlineUptoRow.holds Try.pinned (OpenSpec.upto workDeadlineSpec)

/-- 'civiltimelaw26.WorkShares', WHERE WHAT IT READS IS OF BULK AT MOST 1048576: true; the input reads as it did. -/
def workSharesUptoRow : OpenClaim := { program := "ytkfonfheakpcbaa", sum := "2ed3b5240e0d25012122ca2dcc4e49ac58292adab570cc20d0de1a9ff58783b4", func := "civiltime/civiltimelaw26.WorkShares", spec := "workShares", unfollowed := true, recurses := true, apart := false, narrowed := true }
def WorkSharesUptoSaid : Prop := workSharesUptoRow.holds Try.pinned (OpenSpec.upto workSharesSpec)

/-- 'civiltimelaw26.WorkUndone', WHERE WHAT IT READS IS OF BULK AT MOST 1048576: true; the input reads as it did. -/
def workUndoneUptoRow : OpenClaim := { program := "ytkfonfheakpcbaa", sum := "2ed3b5240e0d25012122ca2dcc4e49ac58292adab570cc20d0de1a9ff58783b4", func := "civiltime/civiltimelaw26.WorkUndone", spec := "workUndone", unfollowed := true, recurses := true, apart := false, narrowed := true }
def WorkUndoneUptoSaid : Prop := workUndoneUptoRow.holds Try.pinned (OpenSpec.upto workUndoneSpec)

/-- 'civiltimelaw26.WorkReaches', WHERE WHAT IT READS IS OF BULK AT MOST 1048576: true; the input reads as it did. -/
def workReachesUptoRow : OpenClaim := { program := "ytkfonfheakpcbaa", sum := "2ed3b5240e0d25012122ca2dcc4e49ac58292adab570cc20d0de1a9ff58783b4", func := "civiltime/civiltimelaw26.WorkReaches", spec := "workReaches", unfollowed := true, recurses := true, apart := false, narrowed := true }
def WorkReachesUptoSaid : Prop := workReachesUptoRow.holds Try.pinned (OpenSpec.upto workReachesSpec)

/-- 'civiltimelaw26.WorkDays', WHERE WHAT IT READS IS OF BULK AT MOST 1048576: true; the input reads as it did. -/
def workDaysUptoRow : OpenClaim := { program := "ytkfonfheakpcbaa", sum := "2ed3b5240e0d25012122ca2dcc4e49ac58292adab570cc20d0de1a9ff58783b4", func := "civiltime/civiltimelaw26.WorkDays", spec := "workDays", unfollowed := true, recurses := true, apart := false, narrowed := true }
def WorkDaysUptoSaid : Prop := workDaysUptoRow.holds Try.pinned (OpenSpec.upto workDaysSpec)

end Rows
end Go.Proofs.Ytkfonfheakpcbaa
