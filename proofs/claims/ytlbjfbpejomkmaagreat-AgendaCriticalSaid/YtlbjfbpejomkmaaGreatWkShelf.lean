/-
  DERIVED: THE SHELF's CONTRACTS AT THIS DUMP, IN PLAIN WORDS (tools/lay-plain.mjs out of 'YtlbjfbpejomkmaaGreatWkShelf.lean', which tools/lay-shelf.mjs wrote): THE SAME DECLARATIONS UNDER THE SAME NAMES: 'import', 'namespace', 'open', 'def', 'theorem' AND NOTHING ELSE: no command of the shelf's: FOR A HAND-IN. Each laying: the table of numbers ('.._ren') and one theorem, a field a fact of the dump's own or the kernel's comparison; each contract: ONE APPLICATION.
-/
import Derived.Shelf.Small.Bits
import Derived.Shelf.Strconv.Itoa0
import Derived.Shelf.Sort.Plain
import Derived.Shelf.Bits.Mul64
import Derived.Shelf.Slices.In.SortNone
import Derived.Ground.SlsfProg
import Derived.Shelf.SlSortCmp.Insertion
import Derived.Shelf.SlSortCmp.SiftDown1
import Derived.Shelf.SlSortCmp.HeapSort1
import Derived.Shelf.SlSortCmp.Insertion1
import Derived.Shelf.SlSortCmp.Median1
import Derived.Shelf.SlSortCmp.Pivot1
import Derived.Shelf.SlSortCmp.ReverseRange1
import Derived.Shelf.SlSortCmp.PartialInsertion1
import Derived.Shelf.SlSortCmp.PartitionEqual1
import Derived.Shelf.SlSortCmp.Partition1
import Derived.Shelf.SlSortCmp.Pdq1
import Derived.Shelf.SlSortCmp.Whole1
import Derived.Test.YtlbjfbpejomkmaaGreatProg
namespace Go.Proofs
open Go.Shelf
def Tryz.lays189_ren : Go.Shelf.Ren := ⟨fun | 189 => 66 | 125 => 105 | 257 => 104 | 128 => 141 | 129 => 142 | 294 => 133 | 295 => 134 | 296 => 135 | 297 => 136 | 298 => 137 | 299 => 138 | 216 => 63 | 300 => 139 | 301 => 140 | 328 => 174 | 329 => 175 | 330 => 176 | 331 => 177 | 332 => 178 | 215 => 100 | 343 => 195 | n => n, fun | 28 => 36 | 3 => 3 | 46 => 120 | 0 => 0 | 51 => 150 | 53 => 153 | 4 => 4 | 183 => 159 | 182 => 158 | 131 => 115 | 5 => 5 | 9 => 9 | 218 => 185 | 222 => 189 | 228 => 198 | 229 => 167 | n => n, fun | n => n⟩
theorem Tryz.lays189 : Go.Proofs.Lays.n189 Tryz.prog Tryz.lays189_ren := {
  mixed := by kernel_rfl
  f125 := Tryz.func105.trans (congrArg some (by kernel_rfl))
  f128 := Tryz.func141.trans (congrArg some (by kernel_rfl))
  f129 := Tryz.func142.trans (congrArg some (by kernel_rfl))
  f189 := Tryz.func66.trans (congrArg some (by kernel_rfl))
  f215 := Tryz.func100.trans (congrArg some (by kernel_rfl))
  f216 := Tryz.func63.trans (congrArg some (by kernel_rfl))
  f257 := Tryz.func104.trans (congrArg some (by kernel_rfl))
  f294 := Tryz.func133.trans (congrArg some (by kernel_rfl))
  f295 := Tryz.func134.trans (congrArg some (by kernel_rfl))
  f296 := Tryz.func135.trans (congrArg some (by kernel_rfl))
  f297 := Tryz.func136.trans (congrArg some (by kernel_rfl))
  f298 := Tryz.func137.trans (congrArg some (by kernel_rfl))
  f299 := Tryz.func138.trans (congrArg some (by kernel_rfl))
  f300 := Tryz.func139.trans (congrArg some (by kernel_rfl))
  f301 := Tryz.func140.trans (congrArg some (by kernel_rfl))
  f328 := Tryz.func174.trans (congrArg some (by kernel_rfl))
  f329 := Tryz.func175.trans (congrArg some (by kernel_rfl))
  f330 := Tryz.func176.trans (congrArg some (by kernel_rfl))
  f331 := Tryz.func177.trans (congrArg some (by kernel_rfl))
  f332 := Tryz.func178.trans (congrArg some (by kernel_rfl))
  f343 := Tryz.func195.trans (congrArg some (by kernel_rfl))
  t0 := Tryz.underlying0
  a0 := Tryz.isAgg0
  z0 := Tryz.sizeOf0
  v0 := Tryz.zeroValue0
  t3 := Tryz.underlying3
  a3 := Tryz.isAgg3
  z3 := Tryz.sizeOf3
  v3 := Tryz.zeroValue3
  t4 := Tryz.underlying4
  a4 := Tryz.isAgg4
  z4 := Tryz.sizeOf4
  v4 := Tryz.zeroValue4
  t5 := Tryz.underlying5
  a5 := Tryz.isAgg5
  z5 := Tryz.sizeOf5
  v5 := Tryz.zeroValue5
  t9 := Tryz.underlying9
  a9 := Tryz.isAgg9
  z9 := Tryz.sizeOf9
  v9 := Tryz.zeroValue9
  t28 := Tryz.underlying36
  a28 := Tryz.isAgg36
  z28 := Tryz.sizeOf36
  v28 := Tryz.zeroValue36
  t46 := Tryz.underlying120
  a46 := Tryz.isAgg120
  z46 := Tryz.sizeOf120
  v46 := Tryz.zeroValue120
  t51 := Tryz.underlying150
  a51 := Tryz.isAgg150
  z51 := Tryz.sizeOf150
  v51 := Tryz.zeroValue150
  t53 := Tryz.underlying153
  a53 := Tryz.isAgg153
  z53 := Tryz.sizeOf153
  v53 := Tryz.zeroValue153
  t131 := Tryz.underlying115
  a131 := Tryz.isAgg115
  z131 := Tryz.sizeOf115
  v131 := Tryz.zeroValue115
  t182 := Tryz.underlying158
  a182 := Tryz.isAgg158
  z182 := Tryz.sizeOf158
  v182 := Tryz.zeroValue158
  t183 := Tryz.underlying159
  a183 := Tryz.isAgg159
  z183 := Tryz.sizeOf159
  v183 := Tryz.zeroValue159
  t218 := Tryz.underlying185
  a218 := Tryz.isAgg185
  z218 := Tryz.sizeOf185
  v218 := Tryz.zeroValue185
  t222 := Tryz.underlying189
  a222 := Tryz.isAgg189
  z222 := Tryz.sizeOf189
  v222 := Tryz.zeroValue189
  t228 := Tryz.underlying198
  a228 := Tryz.isAgg198
  z228 := Tryz.sizeOf198
  v228 := Tryz.zeroValue198
  t229 := Tryz.underlying167
  a229 := Tryz.isAgg167
  z229 := Tryz.sizeOf167
  v229 := Tryz.zeroValue167 }
open Go.Sort Go.RowKit in
theorem Tryz.slices_Sort_int (blk off cap : Nat) (zs : List Int) (w : World) (hH : Holds (Value.int .i64) w blk off zs.toArray) (hblk : blk < w.heap.size) (hsz : zs.length < 4611686018427387904) :
    Calls Tryz.prog 66 #[.slice (some ⟨blk, off, none⟩) zs.length cap] w fun e w' =>
      e = .returned (.tuple #[]) ∧ ∃ n os, w' = grow (putRow (Value.int .i64) (Sort.ahead w n) blk off (zs.mergeSort fun x y => decide (x ≤ y)).toArray) os := Any.slices_Sort_int Tryz.lays189 blk off cap zs w hH hblk hsz
open Go.RowKit Go.Sort in
/-- .. and plain. (LAID: no walk: one application.) -/
theorem Tryz.slices_Sort_int_none (p : Option Addr) (cap : Nat) (w : World) :
    Calls Tryz.prog 66 #[.slice p 0 cap] w fun e w' => e = .returned (.tuple #[]) ∧ w' = w := Any.slices_Sort_int_none Tryz.lays189 p cap w
end Go.Proofs
