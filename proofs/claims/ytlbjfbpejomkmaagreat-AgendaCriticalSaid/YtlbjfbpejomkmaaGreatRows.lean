/-
  No cell of these rows narrows 'for every input' (looked for: loops, veiled, ifaces, maps, wideKeys, modest, calm, conditions, laid).
  DERIVED. THE GIVEN ROWS OF THIS SEAT. 9 by the template 'for every input the law returns true; each argument reads behind the call as it read before'; 0 by the template 'total and deterministic' (their statements: YtlbjfbpejomkmaaGreatTotals.lean).
  GIVEN WITH THE SEED: the statements are not yours to turn. If you find one false, say at which input.
  Laid BY PROGRAM, IN A SANDBOX (cutbox-rows.mjs): the forced cells as the released guide's own fill.sh prints them over the translation 97d9f011b021b903… (all of the seat's roots in one cut). By AI agents, Wed Nov 11 2026. No macro, syntax, notation, axiom, sorry.
-/
import Derived.Test.YtlbjfbpejomkmaaGreatChecked
import GoSem.Claim
import GoSem.ClaimJoined
import GoSem.ClaimMapViews
import Derived.JoinedTies
import Derived.KernelRfl
namespace Go.Proofs.YtlbjfbpejomkmaaGreat
/- THE CELL 'sum', in the pinned program and in every row, IS THE sha256 OF THE DUMP (.gsa) THAT YtlbjfbpejomkmaaGreatProg.lean LOADS. Nothing in Lean hashes anything: it is a label: what it is worth is what the hold of that sum in a sandbox is worth. -/
noncomputable def Tryz.pinned : Pinned := { name := "ytlbjfbpejomkmaagreat", sum := "97d9f011b021b9032f9e612a34fc65d2edf6c4c20f97ab8a567a8259f4076c1e", checked := Tryz.checked }
namespace Rows
def none {H : Type} : Left H := { results := [], args := [] }

/-- 'civiltimelaw48.AgendaValid': WHATEVER THE INPUT: true; the input reads as it did. -/
def agendaValidSpec : ChangeSpec := { name := "agendaValid", fn := fun _ => fun
  | [d1, d2] => { results := [.lit (.bool true)], args := [d1, d2] }
  | _ => none }
def agendaValidRow : OpenClaim := { program := "ytlbjfbpejomkmaagreat", sum := "97d9f011b021b9032f9e612a34fc65d2edf6c4c20f97ab8a567a8259f4076c1e", func := "civiltime/civiltimelaw48.AgendaValid", spec := "agendaValid", unfollowed := true, recurses := true, apart := false }
def AgendaValidSaid : Prop := agendaValidRow.holds Tryz.pinned (OpenSpec.ofChange agendaValidSpec)

/-- ITS FALSE NEIGHBOUR: 'it returns false'. Refute it at one input. -/
def agendaValidWrong : ChangeSpec := { name := "agendaValid", fn := fun _ => fun
  | [d1, d2] => { results := [.lit (.bool false)], args := [d1, d2] }
  | _ => none }
def AgendaValidWrongFalsely : Prop := agendaValidRow.holds Tryz.pinned (OpenSpec.ofChange agendaValidWrong)

/-- 'civiltimelaw48.AgendaSchedules': WHATEVER THE INPUT: true; the input reads as it did. -/
def agendaSchedulesSpec : ChangeSpec := { name := "agendaSchedules", fn := fun _ => fun
  | [d1, d2, d3, d4] => { results := [.lit (.bool true)], args := [d1, d2, d3, d4] }
  | _ => none }
def agendaSchedulesRow : OpenClaim := { program := "ytlbjfbpejomkmaagreat", sum := "97d9f011b021b9032f9e612a34fc65d2edf6c4c20f97ab8a567a8259f4076c1e", func := "civiltime/civiltimelaw48.AgendaSchedules", spec := "agendaSchedules", unfollowed := true, recurses := true, apart := false }
def AgendaSchedulesSaid : Prop := agendaSchedulesRow.holds Tryz.pinned (OpenSpec.ofChange agendaSchedulesSpec)

/-- ITS FALSE NEIGHBOUR: 'it returns false'. Refute it at one input. -/
def agendaSchedulesWrong : ChangeSpec := { name := "agendaSchedules", fn := fun _ => fun
  | [d1, d2, d3, d4] => { results := [.lit (.bool false)], args := [d1, d2, d3, d4] }
  | _ => none }
def AgendaSchedulesWrongFalsely : Prop := agendaSchedulesRow.holds Tryz.pinned (OpenSpec.ofChange agendaSchedulesWrong)

/-- 'civiltimelaw48.AgendaHolds': WHATEVER THE INPUT: true; the input reads as it did. -/
def agendaHoldsSpec : ChangeSpec := { name := "agendaHolds", fn := fun _ => fun
  | [d1, d2, d3, d4] => { results := [.lit (.bool true)], args := [d1, d2, d3, d4] }
  | _ => none }
def agendaHoldsRow : OpenClaim := { program := "ytlbjfbpejomkmaagreat", sum := "97d9f011b021b9032f9e612a34fc65d2edf6c4c20f97ab8a567a8259f4076c1e", func := "civiltime/civiltimelaw48.AgendaHolds", spec := "agendaHolds", unfollowed := true, recurses := true, apart := false }
def AgendaHoldsSaid : Prop := agendaHoldsRow.holds Tryz.pinned (OpenSpec.ofChange agendaHoldsSpec)

/-- ITS FALSE NEIGHBOUR: 'it returns false'. Refute it at one input. -/
def agendaHoldsWrong : ChangeSpec := { name := "agendaHolds", fn := fun _ => fun
  | [d1, d2, d3, d4] => { results := [.lit (.bool false)], args := [d1, d2, d3, d4] }
  | _ => none }
def AgendaHoldsWrongFalsely : Prop := agendaHoldsRow.holds Tryz.pinned (OpenSpec.ofChange agendaHoldsWrong)

/-- 'civiltimelaw48.AgendaConflicts': WHATEVER THE INPUT: true; the input reads as it did. -/
def agendaConflictsSpec : ChangeSpec := { name := "agendaConflicts", fn := fun _ => fun
  | [d1, d2, d3] => { results := [.lit (.bool true)], args := [d1, d2, d3] }
  | _ => none }
def agendaConflictsRow : OpenClaim := { program := "ytlbjfbpejomkmaagreat", sum := "97d9f011b021b9032f9e612a34fc65d2edf6c4c20f97ab8a567a8259f4076c1e", func := "civiltime/civiltimelaw48.AgendaConflicts", spec := "agendaConflicts", unfollowed := true, recurses := true, apart := false }
def AgendaConflictsSaid : Prop := agendaConflictsRow.holds Tryz.pinned (OpenSpec.ofChange agendaConflictsSpec)

/-- ITS FALSE NEIGHBOUR: 'it returns false'. Refute it at one input. -/
def agendaConflictsWrong : ChangeSpec := { name := "agendaConflicts", fn := fun _ => fun
  | [d1, d2, d3] => { results := [.lit (.bool false)], args := [d1, d2, d3] }
  | _ => none }
def AgendaConflictsWrongFalsely : Prop := agendaConflictsRow.holds Tryz.pinned (OpenSpec.ofChange agendaConflictsWrong)

/-- 'civiltimelaw48.AgendaLate': WHATEVER THE INPUT: true; the input reads as it did. -/
def agendaLateSpec : ChangeSpec := { name := "agendaLate", fn := fun _ => fun
  | [d1, d2, d3] => { results := [.lit (.bool true)], args := [d1, d2, d3] }
  | _ => none }
def agendaLateRow : OpenClaim := { program := "ytlbjfbpejomkmaagreat", sum := "97d9f011b021b9032f9e612a34fc65d2edf6c4c20f97ab8a567a8259f4076c1e", func := "civiltime/civiltimelaw48.AgendaLate", spec := "agendaLate", unfollowed := true, recurses := true, apart := false }
def AgendaLateSaid : Prop := agendaLateRow.holds Tryz.pinned (OpenSpec.ofChange agendaLateSpec)

/-- ITS FALSE NEIGHBOUR: 'it returns false'. Refute it at one input. -/
def agendaLateWrong : ChangeSpec := { name := "agendaLate", fn := fun _ => fun
  | [d1, d2, d3] => { results := [.lit (.bool false)], args := [d1, d2, d3] }
  | _ => none }
def AgendaLateWrongFalsely : Prop := agendaLateRow.holds Tryz.pinned (OpenSpec.ofChange agendaLateWrong)

/-- 'civiltimelaw48.AgendaSound': WHATEVER THE INPUT: true; the input reads as it did. -/
def agendaSoundSpec : ChangeSpec := { name := "agendaSound", fn := fun _ => fun
  | [d1, d2, d3, d4] => { results := [.lit (.bool true)], args := [d1, d2, d3, d4] }
  | _ => none }
def agendaSoundRow : OpenClaim := { program := "ytlbjfbpejomkmaagreat", sum := "97d9f011b021b9032f9e612a34fc65d2edf6c4c20f97ab8a567a8259f4076c1e", func := "civiltime/civiltimelaw48.AgendaSound", spec := "agendaSound", unfollowed := true, recurses := true, apart := false }
def AgendaSoundSaid : Prop := agendaSoundRow.holds Tryz.pinned (OpenSpec.ofChange agendaSoundSpec)

/-- ITS FALSE NEIGHBOUR: 'it returns false'. Refute it at one input. -/
def agendaSoundWrong : ChangeSpec := { name := "agendaSound", fn := fun _ => fun
  | [d1, d2, d3, d4] => { results := [.lit (.bool false)], args := [d1, d2, d3, d4] }
  | _ => none }
def AgendaSoundWrongFalsely : Prop := agendaSoundRow.holds Tryz.pinned (OpenSpec.ofChange agendaSoundWrong)

/-- 'civiltimelaw48.AgendaMinimal': WHATEVER THE INPUT: true; the input reads as it did. -/
def agendaMinimalSpec : ChangeSpec := { name := "agendaMinimal", fn := fun _ => fun
  | [d1, d2, d3] => { results := [.lit (.bool true)], args := [d1, d2, d3] }
  | _ => none }
def agendaMinimalRow : OpenClaim := { program := "ytlbjfbpejomkmaagreat", sum := "97d9f011b021b9032f9e612a34fc65d2edf6c4c20f97ab8a567a8259f4076c1e", func := "civiltime/civiltimelaw48.AgendaMinimal", spec := "agendaMinimal", unfollowed := true, recurses := true, apart := false }
def AgendaMinimalSaid : Prop := agendaMinimalRow.holds Tryz.pinned (OpenSpec.ofChange agendaMinimalSpec)

/-- ITS FALSE NEIGHBOUR: 'it returns false'. Refute it at one input. -/
def agendaMinimalWrong : ChangeSpec := { name := "agendaMinimal", fn := fun _ => fun
  | [d1, d2, d3] => { results := [.lit (.bool false)], args := [d1, d2, d3] }
  | _ => none }
def AgendaMinimalWrongFalsely : Prop := agendaMinimalRow.holds Tryz.pinned (OpenSpec.ofChange agendaMinimalWrong)

/-- 'civiltimelaw48.AgendaCritical': WHATEVER THE INPUT: true; the input reads as it did. -/
def agendaCriticalSpec : ChangeSpec := { name := "agendaCritical", fn := fun _ => fun
  | [d1, d2, d3] => { results := [.lit (.bool true)], args := [d1, d2, d3] }
  | _ => none }
def agendaCriticalRow : OpenClaim := { program := "ytlbjfbpejomkmaagreat", sum := "97d9f011b021b9032f9e612a34fc65d2edf6c4c20f97ab8a567a8259f4076c1e", func := "civiltime/civiltimelaw48.AgendaCritical", spec := "agendaCritical", unfollowed := true, recurses := true, apart := false }
def AgendaCriticalSaid : Prop := agendaCriticalRow.holds Tryz.pinned (OpenSpec.ofChange agendaCriticalSpec)

/-- ITS FALSE NEIGHBOUR: 'it returns false'. Refute it at one input. -/
def agendaCriticalWrong : ChangeSpec := { name := "agendaCritical", fn := fun _ => fun
  | [d1, d2, d3] => { results := [.lit (.bool false)], args := [d1, d2, d3] }
  | _ => none }
def AgendaCriticalWrongFalsely : Prop := agendaCriticalRow.holds Tryz.pinned (OpenSpec.ofChange agendaCriticalWrong)

/-- 'civiltimelaw48.AgendaComplete': WHATEVER THE INPUT: true; the input reads as it did. -/
def agendaCompleteSpec : ChangeSpec := { name := "agendaComplete", fn := fun _ => fun
  | [d1, d2, d3, d4, d5] => { results := [.lit (.bool true)], args := [d1, d2, d3, d4, d5] }
  | _ => none }
def agendaCompleteRow : OpenClaim := { program := "ytlbjfbpejomkmaagreat", sum := "97d9f011b021b9032f9e612a34fc65d2edf6c4c20f97ab8a567a8259f4076c1e", func := "civiltime/civiltimelaw48.AgendaComplete", spec := "agendaComplete", unfollowed := true, recurses := true, apart := false }
def AgendaCompleteSaid : Prop := agendaCompleteRow.holds Tryz.pinned (OpenSpec.ofChange agendaCompleteSpec)

/-- ITS FALSE NEIGHBOUR: 'it returns false'. Refute it at one input. -/
def agendaCompleteWrong : ChangeSpec := { name := "agendaComplete", fn := fun _ => fun
  | [d1, d2, d3, d4, d5] => { results := [.lit (.bool false)], args := [d1, d2, d3, d4, d5] }
  | _ => none }
def AgendaCompleteWrongFalsely : Prop := agendaCompleteRow.holds Tryz.pinned (OpenSpec.ofChange agendaCompleteWrong)

/- THE SECOND FORM. 'bulk': how many values and letters a reading holds, each counted each time it is reached (what is shared counts as often as it is met; a slice's spare places count too). A statement '..UptoSaid' is the law's where the arguments, and the package variables that the reading takes, are together of bulk at most 1048576: NARROWER than '..Said'. Prove '..Said' where nothing that the law and all that it calls make is longer than what came in: it says more and counts as full. Else prove '..UptoSaid'. A law counts once. -/
mutual
def uptoBulk {H : Type} : DataW H → Nat
  | .lit (.string bytes) => bytes.length + 1
  | .lit _ => 1
  | .nil => 1
  | .ptr d => uptoBulk d + 1
  | .slice elems spare => uptoBulkAll elems + uptoBulkAll spare + 1
  | .agg parts => uptoBulkAll parts + 1
  | .iface _ d => uptoBulk d + 1
  | .map entries => uptoBulkEntries entries + 1
  | .held _ => 1
def uptoBulkAll {H : Type} : List (DataW H) → Nat
  | [] => 0
  | d :: r => uptoBulk d + uptoBulkAll r
def uptoBulkEntries {H : Type} : List (Lit × DataW H) → Nat
  | [] => 0
  | x :: r => uptoBulkEntry x + uptoBulkEntries r
def uptoBulkEntry {H : Type} : Lit × DataW H → Nat
  | (.string bytes, d) => bytes.length + uptoBulk d + 1
  | (_, d) => uptoBulk d + 1
 end
def uptoSmall : (H : Type) → List (DataW H) → Bool := fun _ ds => decide (uptoBulkAll ds ≤ 1048576)
def OpenSpec.upto (s : _root_.Go.ChangeSpec) : _root_.Go.OpenSpec := { _root_.Go.OpenSpec.ofChange s with cond := some uptoSmall }

/-- 'civiltimelaw48.AgendaValid', WHERE WHAT IT READS IS OF BULK AT MOST 1048576: true; the input reads as it did. -/
def agendaValidUptoRow : OpenClaim := { program := "ytlbjfbpejomkmaagreat", sum := "97d9f011b021b9032f9e612a34fc65d2edf6c4c20f97ab8a567a8259f4076c1e", func := "civiltime/civiltimelaw48.AgendaValid", spec := "agendaValid", unfollowed := true, recurses := true, apart := false, narrowed := true }
def AgendaValidUptoSaid : Prop := agendaValidUptoRow.holds Tryz.pinned (OpenSpec.upto agendaValidSpec)

/-- 'civiltimelaw48.AgendaSchedules', WHERE WHAT IT READS IS OF BULK AT MOST 1048576: true; the input reads as it did. -/
def agendaSchedulesUptoRow : OpenClaim := { program := "ytlbjfbpejomkmaagreat", sum := "97d9f011b021b9032f9e612a34fc65d2edf6c4c20f97ab8a567a8259f4076c1e", func := "civiltime/civiltimelaw48.AgendaSchedules", spec := "agendaSchedules", unfollowed := true, recurses := true, apart := false, narrowed := true }
def AgendaSchedulesUptoSaid : Prop := agendaSchedulesUptoRow.holds Tryz.pinned (OpenSpec.upto agendaSchedulesSpec)

/-- 'civiltimelaw48.AgendaHolds', WHERE WHAT IT READS IS OF BULK AT MOST 1048576: true; the input reads as it did. -/
def agendaHoldsUptoRow : OpenClaim := { program := "ytlbjfbpejomkmaagreat", sum := "97d9f011b021b9032f9e612a34fc65d2edf6c4c20f97ab8a567a8259f4076c1e", func := "civiltime/civiltimelaw48.AgendaHolds", spec := "agendaHolds", unfollowed := true, recurses := true, apart := false, narrowed := true }
def AgendaHoldsUptoSaid : Prop := agendaHoldsUptoRow.holds Tryz.pinned (OpenSpec.upto agendaHoldsSpec)

/-- 'civiltimelaw48.AgendaConflicts', WHERE WHAT IT READS IS OF BULK AT MOST 1048576: true; the input reads as it did. -/
def agendaConflictsUptoRow : OpenClaim := { program := "ytlbjfbpejomkmaagreat", sum := "97d9f011b021b9032f9e612a34fc65d2edf6c4c20f97ab8a567a8259f4076c1e", func := "civiltime/civiltimelaw48.AgendaConflicts", spec := "agendaConflicts", unfollowed := true, recurses := true, apart := false, narrowed := true }
def AgendaConflictsUptoSaid : Prop := agendaConflictsUptoRow.holds Tryz.pinned (OpenSpec.upto agendaConflictsSpec)

/-- 'civiltimelaw48.AgendaLate', WHERE WHAT IT READS IS OF BULK AT MOST 1048576: true; the input reads as it did. -/
def agendaLateUptoRow : OpenClaim := { program := "ytlbjfbpejomkmaagreat", sum := "97d9f011b021b9032f9e612a34fc65d2edf6c4c20f97ab8a567a8259f4076c1e", func := "civiltime/civiltimelaw48.AgendaLate", spec := "agendaLate", unfollowed := true, recurses := true, apart := false, narrowed := true }
def AgendaLateUptoSaid : Prop := agendaLateUptoRow.holds Tryz.pinned (OpenSpec.upto agendaLateSpec)

/-- 'civiltimelaw48.AgendaSound', WHERE WHAT IT READS IS OF BULK AT MOST 1048576: true; the input reads as it did. -/
def agendaSoundUptoRow : OpenClaim := { program := "ytlbjfbpejomkmaagreat", sum := "97d9f011b021b9032f9e612a34fc65d2edf6c4c20f97ab8a567a8259f4076c1e", func := "civiltime/civiltimelaw48.AgendaSound", spec := "agendaSound", unfollowed := true, recurses := true, apart := false, narrowed := true }
def AgendaSoundUptoSaid : Prop := agendaSoundUptoRow.holds Tryz.pinned (OpenSpec.upto agendaSoundSpec)

/-- 'civiltimelaw48.AgendaMinimal', WHERE WHAT IT READS IS OF BULK AT MOST 1048576: true; the input reads as it did. -/
def agendaMinimalUptoRow : OpenClaim := { program := "ytlbjfbpejomkmaagreat", sum := "97d9f011b021b9032f9e612a34fc65d2edf6c4c20f97ab8a567a8259f4076c1e", func := "civiltime/civiltimelaw48.AgendaMinimal", spec := "agendaMinimal", unfollowed := true, recurses := true, apart := false, narrowed := true }
def AgendaMinimalUptoSaid : Prop := agendaMinimalUptoRow.holds Tryz.pinned (OpenSpec.upto agendaMinimalSpec)

/-- 'civiltimelaw48.AgendaCritical', WHERE WHAT IT READS IS OF BULK AT MOST 1048576: true; the input reads as it did. -/
def agendaCriticalUptoRow : OpenClaim := { program := "ytlbjfbpejomkmaagreat", sum := "97d9f011b021b9032f9e612a34fc65d2edf6c4c20f97ab8a567a8259f4076c1e", func := "civiltime/civiltimelaw48.AgendaCritical", spec := "agendaCritical", unfollowed := true, recurses := true, apart := false, narrowed := true }
def AgendaCriticalUptoSaid : Prop := agendaCriticalUptoRow.holds Tryz.pinned (OpenSpec.upto agendaCriticalSpec)

/-- 'civiltimelaw48.AgendaComplete', WHERE WHAT IT READS IS OF BULK AT MOST 1048576: true; the input reads as it did. -/
def agendaCompleteUptoRow : OpenClaim := { program := "ytlbjfbpejomkmaagreat", sum := "97d9f011b021b9032f9e612a34fc65d2edf6c4c20f97ab8a567a8259f4076c1e", func := "civiltime/civiltimelaw48.AgendaComplete", spec := "agendaComplete", unfollowed := true, recurses := true, apart := false, narrowed := true }
def AgendaCompleteUptoSaid : Prop := agendaCompleteUptoRow.holds Tryz.pinned (OpenSpec.upto agendaCompleteSpec)

end Rows
end Go.Proofs.YtlbjfbpejomkmaaGreat
