/-
  DERIVED: THE SHELF's CONTRACTS AT THIS DUMP, IN PLAIN WORDS (tools/lay-plain.mjs out of 'YtnjpceocnldlfaaGreatWkShelf.lean', which tools/lay-shelf.mjs wrote): THE SAME DECLARATIONS UNDER THE SAME NAMES: 'import', 'namespace', 'open', 'def', 'theorem' AND NOTHING ELSE: no command of the shelf's: FOR A HAND-IN. Each laying: the table of numbers ('.._ren') and one theorem, a field a fact of the dump's own or the kernel's comparison; each contract: ONE APPLICATION.
-/
import Derived.Shelf.Small.Bits
import Derived.Shelf.Strconv.Itoa0
import Derived.Shelf.Sort.Plain
import Derived.Shelf.Bits.Mul64
import Derived.Shelf.Slices.Reverse
import Derived.Ground.Names2Prog
import Derived.Shelf.Slices.SearchI
import Derived.Shelf.Slices.Cells
import Derived.Shelf.Slices.In.SortNone
import Derived.Test.YtnjpceocnldlfaaGreatProg
namespace Go.Proofs
open Go.Shelf
def Tryz.lays189_ren : Go.Shelf.Ren := ⟨fun | 189 => 196 | 125 => 170 | 257 => 207 | 128 => 190 | 129 => 191 | 294 => 210 | 295 => 211 | 296 => 212 | 297 => 213 | 298 => 214 | 299 => 215 | 216 => 216 | 300 => 217 | 301 => 218 | 328 => 220 | 329 => 201 | 330 => 202 | 331 => 221 | 332 => 222 | 215 => 223 | 343 => 224 | n => n, fun | 28 => 124 | 3 => 3 | 46 => 148 | 0 => 0 | 51 => 169 | 53 => 171 | 4 => 4 | 183 => 163 | 182 => 162 | 131 => 64 | 5 => 5 | 9 => 9 | 218 => 180 | 222 => 184 | 228 => 189 | 229 => 97 | n => n, fun | n => n⟩
theorem Tryz.lays189 : Go.Proofs.Lays.n189 Tryz.prog Tryz.lays189_ren := {
  mixed := by kernel_rfl
  f125 := Tryz.func170.trans (congrArg some (by kernel_rfl))
  f128 := Tryz.func190.trans (congrArg some (by kernel_rfl))
  f129 := Tryz.func191.trans (congrArg some (by kernel_rfl))
  f189 := Tryz.func196.trans (congrArg some (by kernel_rfl))
  f215 := Tryz.func223.trans (congrArg some (by kernel_rfl))
  f216 := Tryz.func216.trans (congrArg some (by kernel_rfl))
  f257 := Tryz.func207.trans (congrArg some (by kernel_rfl))
  f294 := Tryz.func210.trans (congrArg some (by kernel_rfl))
  f295 := Tryz.func211.trans (congrArg some (by kernel_rfl))
  f296 := Tryz.func212.trans (congrArg some (by kernel_rfl))
  f297 := Tryz.func213.trans (congrArg some (by kernel_rfl))
  f298 := Tryz.func214.trans (congrArg some (by kernel_rfl))
  f299 := Tryz.func215.trans (congrArg some (by kernel_rfl))
  f300 := Tryz.func217.trans (congrArg some (by kernel_rfl))
  f301 := Tryz.func218.trans (congrArg some (by kernel_rfl))
  f328 := Tryz.func220.trans (congrArg some (by kernel_rfl))
  f329 := Tryz.func201.trans (congrArg some (by kernel_rfl))
  f330 := Tryz.func202.trans (congrArg some (by kernel_rfl))
  f331 := Tryz.func221.trans (congrArg some (by kernel_rfl))
  f332 := Tryz.func222.trans (congrArg some (by kernel_rfl))
  f343 := Tryz.func224.trans (congrArg some (by kernel_rfl))
  t0 := Tryz.underlying0
  a0 := Tryz.isAgg0
  z0 := Tryz.sizeOf0
  v0 := Tryz.zeroValue0
  t3 := Tryz.underlying3
  a3 := Tryz.isAgg3
  z3 := Tryz.sizeOf3
  v3 := Tryz.zeroValue3
  t4 := Tryz.underlying4
  a4 := Tryz.isAgg4
  z4 := Tryz.sizeOf4
  v4 := Tryz.zeroValue4
  t5 := Tryz.underlying5
  a5 := Tryz.isAgg5
  z5 := Tryz.sizeOf5
  v5 := Tryz.zeroValue5
  t9 := Tryz.underlying9
  a9 := Tryz.isAgg9
  z9 := Tryz.sizeOf9
  v9 := Tryz.zeroValue9
  t28 := Tryz.underlying124
  a28 := Tryz.isAgg124
  z28 := Tryz.sizeOf124
  v28 := Tryz.zeroValue124
  t46 := Tryz.underlying148
  a46 := Tryz.isAgg148
  z46 := Tryz.sizeOf148
  v46 := Tryz.zeroValue148
  t51 := Tryz.underlying169
  a51 := Tryz.isAgg169
  z51 := Tryz.sizeOf169
  v51 := Tryz.zeroValue169
  t53 := Tryz.underlying171
  a53 := Tryz.isAgg171
  z53 := Tryz.sizeOf171
  v53 := Tryz.zeroValue171
  t131 := Tryz.underlying64
  a131 := Tryz.isAgg64
  z131 := Tryz.sizeOf64
  v131 := Tryz.zeroValue64
  t182 := Tryz.underlying162
  a182 := Tryz.isAgg162
  z182 := Tryz.sizeOf162
  v182 := Tryz.zeroValue162
  t183 := Tryz.underlying163
  a183 := Tryz.isAgg163
  z183 := Tryz.sizeOf163
  v183 := Tryz.zeroValue163
  t218 := Tryz.underlying180
  a218 := Tryz.isAgg180
  z218 := Tryz.sizeOf180
  v218 := Tryz.zeroValue180
  t222 := Tryz.underlying184
  a222 := Tryz.isAgg184
  z222 := Tryz.sizeOf184
  v222 := Tryz.zeroValue184
  t228 := Tryz.underlying189
  a228 := Tryz.isAgg189
  z228 := Tryz.sizeOf189
  v228 := Tryz.zeroValue189
  t229 := Tryz.underlying97
  a229 := Tryz.isAgg97
  z229 := Tryz.sizeOf97
  v229 := Tryz.zeroValue97 }
open Go.Sort Go.RowKit in
theorem Tryz.slices_Sort_int (blk off cap : Nat) (zs : List Int) (w : World) (hH : Holds (Value.int .i64) w blk off zs.toArray) (hblk : blk < w.heap.size) (hsz : zs.length < 4611686018427387904) :
    Calls Tryz.prog 196 #[.slice (some ⟨blk, off, none⟩) zs.length cap] w fun e w' =>
      e = .returned (.tuple #[]) ∧ ∃ n os, w' = grow (putRow (Value.int .i64) (Sort.ahead w n) blk off (zs.mergeSort fun x y => decide (x ≤ y)).toArray) os := Any.slices_Sort_int Tryz.lays189 blk off cap zs w hH hblk hsz
open Go.RowKit Go.Sort in
/-- .. and plain. (LAID: no walk: one application.) -/
theorem Tryz.slices_Sort_int_none (p : Option Addr) (cap : Nat) (w : World) :
    Calls Tryz.prog 196 #[.slice p 0 cap] w fun e w' => e = .returned (.tuple #[]) ∧ w' = w := Any.slices_Sort_int_none Tryz.lays189 p cap w
end Go.Proofs
