import Derived.Test.YtlbglinpgjlbkaaDoorWkJ1
import Derived.Shelf.Strings.Builder2
import Derived.Shelf.Strings.BuilderK
/- strings.Builder's WriteString, laid by hand where the dump has no strings.Join (seat .D). No conditions. -/
namespace Go.Proofs.YtlbglinpgjlbkaaDoor
open Go.RowKit Wk

def wsRen : Go.Shelf.Ren := ⟨fun | 166 => 11 | 240 => 26 | 276 => 48 | n => n, fun | 0 => 0 | 3 => 3 | 4 => 4 | 9 => 9 | 20 => 20 | 37 => 37 | 70 => 36 | 72 => 39 | 75 => 47 | 164 => 100 | 5 => 5 | 80 => 45 | n => n, fun | n => n⟩
theorem lays_ws : Lays.n166 Tryd.prog wsRen := {
 mixed := by kernel_rfl
 f166 := Tryd.func11.trans (congrArg some (by kernel_rfl))
 f240 := Tryd.func26.trans (congrArg some (by kernel_rfl))
 f276 := Tryd.func48.trans (congrArg some (by kernel_rfl))
 t0 := Tryd.underlying0
 a0 := Tryd.isAgg0
 z0 := Tryd.sizeOf0
 v0 := Tryd.zeroValue0
 t3 := Tryd.underlying3
 a3 := Tryd.isAgg3
 z3 := Tryd.sizeOf3
 v3 := Tryd.zeroValue3
 t4 := Tryd.underlying4
 a4 := Tryd.isAgg4
 z4 := Tryd.sizeOf4
 v4 := Tryd.zeroValue4
 t9 := Tryd.underlying9
 a9 := Tryd.isAgg9
 z9 := Tryd.sizeOf9
 v9 := Tryd.zeroValue9
 t20 := Tryd.underlying20
 a20 := Tryd.isAgg20
 z20 := Tryd.sizeOf20
 v20 := Tryd.zeroValue20
 t37 := Tryd.underlying37
 a37 := Tryd.isAgg37
 z37 := Tryd.sizeOf37
 v37 := Tryd.zeroValue37
 t70 := Tryd.underlying36
 a70 := Tryd.isAgg36
 z70 := Tryd.sizeOf36
 v70 := Tryd.zeroValue36
 t72 := Tryd.underlying39
 a72 := Tryd.isAgg39
 z72 := Tryd.sizeOf39
 v72 := Tryd.zeroValue39
 t75 := Tryd.underlying47
 a75 := Tryd.isAgg47
 z75 := Tryd.sizeOf47
 v75 := Tryd.zeroValue47
 t164 := Tryd.underlying100
 a164 := Tryd.isAgg100
 z164 := Tryd.sizeOf100
 v164 := Tryd.zeroValue100 }
theorem ws_extra : Builder.Extra Tryd.prog wsRen := {
 sizeBuilder := by kernel_rfl
 liesBuilder := by kernel_rfl
 t5 := Tryd.underlying5
 a5 := Tryd.isAgg5
 z5 := Tryd.sizeOf5
 v5 := Tryd.zeroValue5
 infoByte := by kernel_rfl
 cellsByte := by kernel_rfl
 sizeByte := by kernel_rfl
 neB5 := by decide }
theorem ws_any {w0 w : World} {b : Nat} {l : Bs} (h : Bld w0 b l w) (s : ByteArray) (hl : l.length + s.size ≤ 140737488355328) :
  Calls Tryd.prog 11 #[.pointer (some ⟨b, 0, none⟩), .string s] w fun e w' => e = .returned (.tuple #[.int .i64 s.size, .nilIface]) ∧ Bld w0 b (l ++ bsO s) w' ∧ Lib.OthersKept 5 (some b) w w' :=
 (Any.Builder_WriteString_k lays_ws ws_extra w0.heap.size b (Lib.byteCells l) s w h.1 (by rw [Lib.byteCells_length]; exact hl) h.2.size).mono fun e w' q => by
  obtain ⟨he, h1, h2, h3⟩ := q
  refine ⟨he, ⟨.inr ?_, h.2.trans h2⟩, h3⟩
  rw [Lib.byteCells_append, ← Lib.strCells_eq]
  exact h1
end Go.Proofs.YtlbglinpgjlbkaaDoor
