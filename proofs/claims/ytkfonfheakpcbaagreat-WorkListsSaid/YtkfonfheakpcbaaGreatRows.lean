/-
  No cell of these rows narrows 'for every input' (looked for: loops, veiled, ifaces, maps, wideKeys, modest, calm, conditions, laid).
  DERIVED. THE GIVEN ROWS OF THIS SEAT. 6 by the template 'for every input the law returns true; each argument reads behind the call as it read before'; 0 by the template 'total and deterministic' (their statements: YtkfonfheakpcbaaGreatTotals.lean).
  GIVEN WITH THE SEED: the statements are not yours to turn. If you find one false, say at which input.
  Laid BY PROGRAM, IN A SANDBOX (cutbox-rows.mjs): the forced cells as the released guide's own fill.sh prints them over the translation 8dfde064b52c2e57… (all of the seat's roots in one cut). By AI agents, Wed Nov 11 2026. No macro, syntax, notation, axiom, sorry.
-/
import Derived.Test.YtkfonfheakpcbaaGreatChecked
import GoSem.Claim
import GoSem.ClaimJoined
import GoSem.ClaimMapViews
import Derived.JoinedTies
import Derived.KernelRfl
namespace Go.Proofs.YtkfonfheakpcbaaGreat
/- THE CELL 'sum', in the pinned program and in every row, IS THE sha256 OF THE DUMP (.gsa) THAT YtkfonfheakpcbaaGreatProg.lean LOADS. Nothing in Lean hashes anything: it is a label: what it is worth is what the hold of that sum in a sandbox is worth. -/
noncomputable def Tryz.pinned : Pinned := { name := "ytkfonfheakpcbaagreat", sum := "8dfde064b52c2e57df8b2a957c0cb9f7ed2ccde4ae3fbc317726213a98882c59", checked := Tryz.checked }
namespace Rows
def none {H : Type} : Left H := { results := [], args := [] }

/-- 'civiltimelaw26.WorkDeadlines': WHATEVER THE INPUT: true; the input reads as it did. -/
def workDeadlinesSpec : ChangeSpec := { name := "workDeadlines", fn := fun _ => fun
  | [d1, d2, d3, d4] => { results := [.lit (.bool true)], args := [d1, d2, d3, d4] }
  | _ => none }
def workDeadlinesRow : OpenClaim := { program := "ytkfonfheakpcbaagreat", sum := "8dfde064b52c2e57df8b2a957c0cb9f7ed2ccde4ae3fbc317726213a98882c59", func := "civiltime/civiltimelaw26.WorkDeadlines", spec := "workDeadlines", unfollowed := true, recurses := true, apart := false }
def WorkDeadlinesSaid : Prop := workDeadlinesRow.holds Tryz.pinned (OpenSpec.ofChange workDeadlinesSpec)

/-- ITS FALSE NEIGHBOUR: 'it returns false'. Refute it at one input. -/
def workDeadlinesWrong : ChangeSpec := { name := "workDeadlines", fn := fun _ => fun
  | [d1, d2, d3, d4] => { results := [.lit (.bool false)], args := [d1, d2, d3, d4] }
  | _ => none }
def WorkDeadlinesWrongFalsely : Prop := workDeadlinesRow.holds Tryz.pinned (OpenSpec.ofChange workDeadlinesWrong)

/-- 'civiltimelaw26.WorkAddsUp': WHATEVER THE INPUT: true; the input reads as it did. -/
def workAddsUpSpec : ChangeSpec := { name := "workAddsUp", fn := fun _ => fun
  | [d1, d2, d3, d4] => { results := [.lit (.bool true)], args := [d1, d2, d3, d4] }
  | _ => none }
def workAddsUpRow : OpenClaim := { program := "ytkfonfheakpcbaagreat", sum := "8dfde064b52c2e57df8b2a957c0cb9f7ed2ccde4ae3fbc317726213a98882c59", func := "civiltime/civiltimelaw26.WorkAddsUp", spec := "workAddsUp", unfollowed := true, recurses := true, apart := false }
def WorkAddsUpSaid : Prop := workAddsUpRow.holds Tryz.pinned (OpenSpec.ofChange workAddsUpSpec)

/-- ITS FALSE NEIGHBOUR: 'it returns false'. Refute it at one input. -/
def workAddsUpWrong : ChangeSpec := { name := "workAddsUp", fn := fun _ => fun
  | [d1, d2, d3, d4] => { results := [.lit (.bool false)], args := [d1, d2, d3, d4] }
  | _ => none }
def WorkAddsUpWrongFalsely : Prop := workAddsUpRow.holds Tryz.pinned (OpenSpec.ofChange workAddsUpWrong)

/-- 'civiltimelaw26.WorkAdds': WHATEVER THE INPUT: true; the input reads as it did. -/
def workAddsSpec : ChangeSpec := { name := "workAdds", fn := fun _ => fun
  | [d1, d2, d3] => { results := [.lit (.bool true)], args := [d1, d2, d3] }
  | _ => none }
def workAddsRow : OpenClaim := { program := "ytkfonfheakpcbaagreat", sum := "8dfde064b52c2e57df8b2a957c0cb9f7ed2ccde4ae3fbc317726213a98882c59", func := "civiltime/civiltimelaw26.WorkAdds", spec := "workAdds", unfollowed := true, recurses := true, apart := false }
def WorkAddsSaid : Prop := workAddsRow.holds Tryz.pinned (OpenSpec.ofChange workAddsSpec)

/-- ITS FALSE NEIGHBOUR: 'it returns false'. Refute it at one input. -/
def workAddsWrong : ChangeSpec := { name := "workAdds", fn := fun _ => fun
  | [d1, d2, d3] => { results := [.lit (.bool false)], args := [d1, d2, d3] }
  | _ => none }
def WorkAddsWrongFalsely : Prop := workAddsRow.holds Tryz.pinned (OpenSpec.ofChange workAddsWrong)

/-- 'civiltimelaw26.WorkMeasures': WHATEVER THE INPUT: true; the input reads as it did. -/
def workMeasuresSpec : ChangeSpec := { name := "workMeasures", fn := fun _ => fun
  | [d1, d2, d3] => { results := [.lit (.bool true)], args := [d1, d2, d3] }
  | _ => none }
def workMeasuresRow : OpenClaim := { program := "ytkfonfheakpcbaagreat", sum := "8dfde064b52c2e57df8b2a957c0cb9f7ed2ccde4ae3fbc317726213a98882c59", func := "civiltime/civiltimelaw26.WorkMeasures", spec := "workMeasures", unfollowed := true, recurses := true, apart := false }
def WorkMeasuresSaid : Prop := workMeasuresRow.holds Tryz.pinned (OpenSpec.ofChange workMeasuresSpec)

/-- ITS FALSE NEIGHBOUR: 'it returns false'. Refute it at one input. -/
def workMeasuresWrong : ChangeSpec := { name := "workMeasures", fn := fun _ => fun
  | [d1, d2, d3] => { results := [.lit (.bool false)], args := [d1, d2, d3] }
  | _ => none }
def WorkMeasuresWrongFalsely : Prop := workMeasuresRow.holds Tryz.pinned (OpenSpec.ofChange workMeasuresWrong)

/-- 'civiltimelaw26.WorkLists': WHATEVER THE INPUT: true; the input reads as it did. -/
def workListsSpec : ChangeSpec := { name := "workLists", fn := fun _ => fun
  | [d1, d2, d3, d4, d5] => { results := [.lit (.bool true)], args := [d1, d2, d3, d4, d5] }
  | _ => none }
def workListsRow : OpenClaim := { program := "ytkfonfheakpcbaagreat", sum := "8dfde064b52c2e57df8b2a957c0cb9f7ed2ccde4ae3fbc317726213a98882c59", func := "civiltime/civiltimelaw26.WorkLists", spec := "workLists", unfollowed := true, recurses := true, apart := false }
def WorkListsSaid : Prop := workListsRow.holds Tryz.pinned (OpenSpec.ofChange workListsSpec)

/-- ITS FALSE NEIGHBOUR: 'it returns false'. Refute it at one input. -/
def workListsWrong : ChangeSpec := { name := "workLists", fn := fun _ => fun
  | [d1, d2, d3, d4, d5] => { results := [.lit (.bool false)], args := [d1, d2, d3, d4, d5] }
  | _ => none }
def WorkListsWrongFalsely : Prop := workListsRow.holds Tryz.pinned (OpenSpec.ofChange workListsWrong)

/-- 'civiltimelaw26.WorkParts': WHATEVER THE INPUT: true; the input reads as it did. -/
def workPartsSpec : ChangeSpec := { name := "workParts", fn := fun _ => fun
  | [d1, d2, d3] => { results := [.lit (.bool true)], args := [d1, d2, d3] }
  | _ => none }
def workPartsRow : OpenClaim := { program := "ytkfonfheakpcbaagreat", sum := "8dfde064b52c2e57df8b2a957c0cb9f7ed2ccde4ae3fbc317726213a98882c59", func := "civiltime/civiltimelaw26.WorkParts", spec := "workParts", unfollowed := true, recurses := true, apart := false }
def WorkPartsSaid : Prop := workPartsRow.holds Tryz.pinned (OpenSpec.ofChange workPartsSpec)

/-- ITS FALSE NEIGHBOUR: 'it returns false'. Refute it at one input. -/
def workPartsWrong : ChangeSpec := { name := "workParts", fn := fun _ => fun
  | [d1, d2, d3] => { results := [.lit (.bool false)], args := [d1, d2, d3] }
  | _ => none }
def WorkPartsWrongFalsely : Prop := workPartsRow.holds Tryz.pinned (OpenSpec.ofChange workPartsWrong)

/- THE SECOND FORM. 'bulk': how many values and letters a reading holds, each counted each time it is reached (what is shared counts as often as it is met; a slice's spare places count too). A statement '..UptoSaid' is the law's where the arguments, and the package variables that the reading takes, are together of bulk at most 1048576: NARROWER than '..Said'. Prove '..Said' where nothing that the law and all that it calls make is longer than what came in: it says more and counts as full. Else prove '..UptoSaid'. A law counts once. -/
mutual
def uptoBulk {H : Type} : DataW H → Nat
  | .lit (.string bytes) => bytes.length + 1
  | .lit _ => 1
  | .nil => 1
  | .ptr d => uptoBulk d + 1
  | .slice elems spare => uptoBulkAll elems + uptoBulkAll spare + 1
  | .agg parts => uptoBulkAll parts + 1
  | .iface _ d => uptoBulk d + 1
  | .map entries => uptoBulkEntries entries + 1
  | .held _ => 1
def uptoBulkAll {H : Type} : List (DataW H) → Nat
  | [] => 0
  | d :: r => uptoBulk d + uptoBulkAll r
def uptoBulkEntries {H : Type} : List (Lit × DataW H) → Nat
  | [] => 0
  | x :: r => uptoBulkEntry x + uptoBulkEntries r
def uptoBulkEntry {H : Type} : Lit × DataW H → Nat
  | (.string bytes, d) => bytes.length + uptoBulk d + 1
  | (_, d) => uptoBulk d + 1
 end
def uptoSmall : (H : Type) → List (DataW H) → Bool := fun _ ds => decide (uptoBulkAll ds ≤ 1048576)
def OpenSpec.upto (s : _root_.Go.ChangeSpec) : _root_.Go.OpenSpec := { _root_.Go.OpenSpec.ofChange s with cond := some uptoSmall }

/-- 'civiltimelaw26.WorkDeadlines', WHERE WHAT IT READS IS OF BULK AT MOST 1048576: true; the input reads as it did. -/
def workDeadlinesUptoRow : OpenClaim := { program := "ytkfonfheakpcbaagreat", sum := "8dfde064b52c2e57df8b2a957c0cb9f7ed2ccde4ae3fbc317726213a98882c59", func := "civiltime/civiltimelaw26.WorkDeadlines", spec := "workDeadlines", unfollowed := true, recurses := true, apart := false, narrowed := true }
def WorkDeadlinesUptoSaid : Prop := workDeadlinesUptoRow.holds Tryz.pinned (OpenSpec.upto workDeadlinesSpec)

/-- 'civiltimelaw26.WorkAddsUp', WHERE WHAT IT READS IS OF BULK AT MOST 1048576: true; the input reads as it did. -/
def workAddsUpUptoRow : OpenClaim := { program := "ytkfonfheakpcbaagreat", sum := "8dfde064b52c2e57df8b2a957c0cb9f7ed2ccde4ae3fbc317726213a98882c59", func := "civiltime/civiltimelaw26.WorkAddsUp", spec := "workAddsUp", unfollowed := true, recurses := true, apart := false, narrowed := true }
def WorkAddsUpUptoSaid : Prop := workAddsUpUptoRow.holds Tryz.pinned (OpenSpec.upto workAddsUpSpec)

/-- 'civiltimelaw26.WorkAdds', WHERE WHAT IT READS IS OF BULK AT MOST 1048576: true; the input reads as it did. -/
def workAddsUptoRow : OpenClaim := { program := "ytkfonfheakpcbaagreat", sum := "8dfde064b52c2e57df8b2a957c0cb9f7ed2ccde4ae3fbc317726213a98882c59", func := "civiltime/civiltimelaw26.WorkAdds", spec := "workAdds", unfollowed := true, recurses := true, apart := false, narrowed := true }
def WorkAddsUptoSaid : Prop := workAddsUptoRow.holds Tryz.pinned (OpenSpec.upto workAddsSpec)

/-- 'civiltimelaw26.WorkMeasures', WHERE WHAT IT READS IS OF BULK AT MOST 1048576: true; the input reads as it did. -/
def workMeasuresUptoRow : OpenClaim := { program := "ytkfonfheakpcbaagreat", sum := "8dfde064b52c2e57df8b2a957c0cb9f7ed2ccde4ae3fbc317726213a98882c59", func := "civiltime/civiltimelaw26.WorkMeasures", spec := "workMeasures", unfollowed := true, recurses := true, apart := false, narrowed := true }
def WorkMeasuresUptoSaid : Prop := workMeasuresUptoRow.holds Tryz.pinned (OpenSpec.upto workMeasuresSpec)

/-- 'civiltimelaw26.WorkLists', WHERE WHAT IT READS IS OF BULK AT MOST 1048576: true; the input reads as it did. -/
def workListsUptoRow : OpenClaim := { program := "ytkfonfheakpcbaagreat", sum := "8dfde064b52c2e57df8b2a957c0cb9f7ed2ccde4ae3fbc317726213a98882c59", func := "civiltime/civiltimelaw26.WorkLists", spec := "workLists", unfollowed := true, recurses := true, apart := false, narrowed := true }
def WorkListsUptoSaid : Prop := workListsUptoRow.holds Tryz.pinned (OpenSpec.upto workListsSpec)

/-- 'civiltimelaw26.WorkParts', WHERE WHAT IT READS IS OF BULK AT MOST 1048576: true; the input reads as it did. -/
def workPartsUptoRow : OpenClaim := { program := "ytkfonfheakpcbaagreat", sum := "8dfde064b52c2e57df8b2a957c0cb9f7ed2ccde4ae3fbc317726213a98882c59", func := "civiltime/civiltimelaw26.WorkParts", spec := "workParts", unfollowed := true, recurses := true, apart := false, narrowed := true }
def WorkPartsUptoSaid : Prop := workPartsUptoRow.holds Tryz.pinned (OpenSpec.upto workPartsSpec)

end Rows
end Go.Proofs.YtkfonfheakpcbaaGreat
