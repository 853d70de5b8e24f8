/-
  DERIVED: THE SHELF's CONTRACTS AT THIS DUMP, IN PLAIN WORDS (tools/lay-plain.mjs out of 'YtkfonfheakpcbaaGreatWkShelf.lean', which tools/lay-shelf.mjs wrote): THE SAME DECLARATIONS UNDER THE SAME NAMES: 'import', 'namespace', 'open', 'def', 'theorem' AND NOTHING ELSE: no command of the shelf's: FOR A HAND-IN. Each laying: the table of numbers ('.._ren') and one theorem, a field a fact of the dump's own or the kernel's comparison; each contract: ONE APPLICATION.
-/
import Derived.Shelf.Sort.Plain
import Derived.Shelf.Slices.Reverse
import Derived.Ground.Names2Prog
import Derived.Shelf.Slices.SearchI
import Derived.Shelf.Slices.In.SortNone
import Derived.Test.YtkfonfheakpcbaaGreatProg
namespace Go.Proofs
open Go.Shelf
def Tryz.lays189_ren : Go.Shelf.Ren := ⟨fun | 189 => 132 | 125 => 134 | 257 => 133 | 128 => 144 | 129 => 145 | 294 => 135 | 295 => 136 | 296 => 137 | 297 => 138 | 298 => 139 | 299 => 140 | 216 => 141 | 300 => 142 | 301 => 143 | 328 => 146 | 329 => 147 | 330 => 148 | 331 => 149 | 332 => 150 | 215 => 151 | 343 => 152 | n => n, fun | 28 => 49 | 3 => 3 | 46 => 125 | 0 => 0 | 51 => 135 | 53 => 137 | 4 => 4 | 183 => 128 | 182 => 127 | 131 => 77 | 5 => 5 | 9 => 9 | 218 => 138 | 222 => 142 | 228 => 144 | 229 => 32 | n => n, fun | n => n⟩
theorem Tryz.lays189 : Go.Proofs.Lays.n189 Tryz.prog Tryz.lays189_ren := {
  mixed := by kernel_rfl
  f125 := Tryz.func134.trans (congrArg some (by kernel_rfl))
  f128 := Tryz.func144.trans (congrArg some (by kernel_rfl))
  f129 := Tryz.func145.trans (congrArg some (by kernel_rfl))
  f189 := Tryz.func132.trans (congrArg some (by kernel_rfl))
  f215 := Tryz.func151.trans (congrArg some (by kernel_rfl))
  f216 := Tryz.func141.trans (congrArg some (by kernel_rfl))
  f257 := Tryz.func133.trans (congrArg some (by kernel_rfl))
  f294 := Tryz.func135.trans (congrArg some (by kernel_rfl))
  f295 := Tryz.func136.trans (congrArg some (by kernel_rfl))
  f296 := Tryz.func137.trans (congrArg some (by kernel_rfl))
  f297 := Tryz.func138.trans (congrArg some (by kernel_rfl))
  f298 := Tryz.func139.trans (congrArg some (by kernel_rfl))
  f299 := Tryz.func140.trans (congrArg some (by kernel_rfl))
  f300 := Tryz.func142.trans (congrArg some (by kernel_rfl))
  f301 := Tryz.func143.trans (congrArg some (by kernel_rfl))
  f328 := Tryz.func146.trans (congrArg some (by kernel_rfl))
  f329 := Tryz.func147.trans (congrArg some (by kernel_rfl))
  f330 := Tryz.func148.trans (congrArg some (by kernel_rfl))
  f331 := Tryz.func149.trans (congrArg some (by kernel_rfl))
  f332 := Tryz.func150.trans (congrArg some (by kernel_rfl))
  f343 := Tryz.func152.trans (congrArg some (by kernel_rfl))
  t0 := Tryz.underlying0
  a0 := Tryz.isAgg0
  z0 := Tryz.sizeOf0
  v0 := Tryz.zeroValue0
  t3 := Tryz.underlying3
  a3 := Tryz.isAgg3
  z3 := Tryz.sizeOf3
  v3 := Tryz.zeroValue3
  t4 := Tryz.underlying4
  a4 := Tryz.isAgg4
  z4 := Tryz.sizeOf4
  v4 := Tryz.zeroValue4
  t5 := Tryz.underlying5
  a5 := Tryz.isAgg5
  z5 := Tryz.sizeOf5
  v5 := Tryz.zeroValue5
  t9 := Tryz.underlying9
  a9 := Tryz.isAgg9
  z9 := Tryz.sizeOf9
  v9 := Tryz.zeroValue9
  t28 := Tryz.underlying49
  a28 := Tryz.isAgg49
  z28 := Tryz.sizeOf49
  v28 := Tryz.zeroValue49
  t46 := Tryz.underlying125
  a46 := Tryz.isAgg125
  z46 := Tryz.sizeOf125
  v46 := Tryz.zeroValue125
  t51 := Tryz.underlying135
  a51 := Tryz.isAgg135
  z51 := Tryz.sizeOf135
  v51 := Tryz.zeroValue135
  t53 := Tryz.underlying137
  a53 := Tryz.isAgg137
  z53 := Tryz.sizeOf137
  v53 := Tryz.zeroValue137
  t131 := Tryz.underlying77
  a131 := Tryz.isAgg77
  z131 := Tryz.sizeOf77
  v131 := Tryz.zeroValue77
  t182 := Tryz.underlying127
  a182 := Tryz.isAgg127
  z182 := Tryz.sizeOf127
  v182 := Tryz.zeroValue127
  t183 := Tryz.underlying128
  a183 := Tryz.isAgg128
  z183 := Tryz.sizeOf128
  v183 := Tryz.zeroValue128
  t218 := Tryz.underlying138
  a218 := Tryz.isAgg138
  z218 := Tryz.sizeOf138
  v218 := Tryz.zeroValue138
  t222 := Tryz.underlying142
  a222 := Tryz.isAgg142
  z222 := Tryz.sizeOf142
  v222 := Tryz.zeroValue142
  t228 := Tryz.underlying144
  a228 := Tryz.isAgg144
  z228 := Tryz.sizeOf144
  v228 := Tryz.zeroValue144
  t229 := Tryz.underlying32
  a229 := Tryz.isAgg32
  z229 := Tryz.sizeOf32
  v229 := Tryz.zeroValue32 }
open Go.Sort Go.RowKit in
theorem Tryz.slices_Sort_int (blk off cap : Nat) (zs : List Int) (w : World) (hH : Holds (Value.int .i64) w blk off zs.toArray) (hblk : blk < w.heap.size) (hsz : zs.length < 4611686018427387904) :
    Calls Tryz.prog 132 #[.slice (some ⟨blk, off, none⟩) zs.length cap] w fun e w' =>
      e = .returned (.tuple #[]) ∧ ∃ n os, w' = grow (putRow (Value.int .i64) (Sort.ahead w n) blk off (zs.mergeSort fun x y => decide (x ≤ y)).toArray) os := Any.slices_Sort_int Tryz.lays189 blk off cap zs w hH hblk hsz
open Go.RowKit Go.Sort in
/-- .. and plain. (LAID: no walk: one application.) -/
theorem Tryz.slices_Sort_int_none (p : Option Addr) (cap : Nat) (w : World) :
    Calls Tryz.prog 132 #[.slice p 0 cap] w fun e w' => e = .returned (.tuple #[]) ∧ w' = w := Any.slices_Sort_int_none Tryz.lays189 p cap w
end Go.Proofs
