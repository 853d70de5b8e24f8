/-
  DERIVED: THE SHELF's CONTRACTS AT THIS DUMP, IN PLAIN WORDS (tools/lay-plain.mjs out of 'YtnjpceocnldlfaaGreatWkShelfS.lean', which tools/lay-shelf.mjs wrote): THE SAME DECLARATIONS UNDER THE SAME NAMES: 'import', 'namespace', 'open', 'def', 'theorem' AND NOTHING ELSE: no command of the shelf's: FOR A HAND-IN. Each laying: the table of numbers ('.._ren') and one theorem, a field a fact of the dump's own or the kernel's comparison; each contract: ONE APPLICATION.
-/
import Derived.Shelf.Small.Bits
import Derived.Shelf.Strconv.Itoa0
import Derived.Shelf.Sort.Plain
import Derived.Shelf.Bits.Mul64
import Derived.Shelf.Slices.Reverse
import Derived.Ground.Names2Prog
import Derived.Shelf.Slices.SearchI
import Derived.Shelf.Slices.Cells
import Derived.Shelf.Slices.In.SortNone
import Derived.Shelf.SlSortCmp.WholeK
import Derived.Ground.SlsfProg
import Derived.Test.YtnjpceocnldlfaaGreatProg
namespace Go.Proofs
open Go.Shelf
def Tryz.sortSp_ren : Go.Shelf.Ren := ⟨fun | 6 => 141 | 15 => 170 | 14 => 169 | 28 => 190 | 29 => 191 | 20 => 182 | 21 => 183 | 22 => 184 | 23 => 185 | 24 => 186 | 25 => 187 | 26 => 188 | 27 => 189 | 46 => 200 | 47 => 201 | 48 => 202 | 49 => 203 | 50 => 204 | 57 => 208 | n => n, fun | 22 => 22 | 24 => 40 | 25 => 135 | 3 => 3 | 39 => 148 | 0 => 0 | 53 => 169 | 55 => 171 | 4 => 4 | 46 => 163 | 45 => 162 | 50 => 64 | 5 => 5 | 9 => 9 | 66 => 180 | 70 => 184 | 76 => 189 | 77 => 97 | n => n, fun | n => n⟩
theorem Tryz.sortSp : Go.Proofs.SlLaysF0.n6 Tryz.prog Tryz.sortSp_ren := {
  mixed := by kernel_rfl
  f6 := ⟨Tryz.f141.name, by decide, Tryz.func141.trans (congrArg some (by kernel_rfl))⟩
  f14 := ⟨Tryz.f169.name, by decide, Tryz.func169.trans (congrArg some (by kernel_rfl))⟩
  f15 := Tryz.func170.trans (congrArg some (by kernel_rfl))
  f20 := ⟨Tryz.f182.name, by decide, Tryz.func182.trans (congrArg some (by kernel_rfl))⟩
  f21 := ⟨Tryz.f183.name, by decide, Tryz.func183.trans (congrArg some (by kernel_rfl))⟩
  f22 := ⟨Tryz.f184.name, by decide, Tryz.func184.trans (congrArg some (by kernel_rfl))⟩
  f23 := ⟨Tryz.f185.name, by decide, Tryz.func185.trans (congrArg some (by kernel_rfl))⟩
  f24 := ⟨Tryz.f186.name, by decide, Tryz.func186.trans (congrArg some (by kernel_rfl))⟩
  f25 := ⟨Tryz.f187.name, by decide, Tryz.func187.trans (congrArg some (by kernel_rfl))⟩
  f26 := ⟨Tryz.f188.name, by decide, Tryz.func188.trans (congrArg some (by kernel_rfl))⟩
  f27 := ⟨Tryz.f189.name, by decide, Tryz.func189.trans (congrArg some (by kernel_rfl))⟩
  f28 := Tryz.func190.trans (congrArg some (by kernel_rfl))
  f29 := Tryz.func191.trans (congrArg some (by kernel_rfl))
  f46 := ⟨Tryz.f200.name, by decide, Tryz.func200.trans (congrArg some (by kernel_rfl))⟩
  f47 := Tryz.func201.trans (congrArg some (by kernel_rfl))
  f48 := Tryz.func202.trans (congrArg some (by kernel_rfl))
  f49 := ⟨Tryz.f203.name, by decide, Tryz.func203.trans (congrArg some (by kernel_rfl))⟩
  f50 := ⟨Tryz.f204.name, by decide, Tryz.func204.trans (congrArg some (by kernel_rfl))⟩
  f57 := ⟨Tryz.f208.name, by decide, Tryz.func208.trans (congrArg some (by kernel_rfl))⟩
  t0 := Tryz.underlying0
  a0 := Tryz.isAgg0
  z0 := Tryz.sizeOf0
  v0 := Tryz.zeroValue0
  t3 := Tryz.underlying3
  a3 := Tryz.isAgg3
  z3 := Tryz.sizeOf3
  v3 := Tryz.zeroValue3
  t4 := Tryz.underlying4
  a4 := Tryz.isAgg4
  z4 := Tryz.sizeOf4
  v4 := Tryz.zeroValue4
  t5 := Tryz.underlying5
  a5 := Tryz.isAgg5
  z5 := Tryz.sizeOf5
  v5 := Tryz.zeroValue5
  t9 := Tryz.underlying9
  a9 := Tryz.isAgg9
  z9 := Tryz.sizeOf9
  v9 := Tryz.zeroValue9
  t22 := Tryz.underlying22
  a22 := Tryz.isAgg22
  z22 := Tryz.sizeOf22
  v22 := Tryz.zeroValue22
  t25 := Tryz.underlying135
  a25 := Tryz.isAgg135
  z25 := Tryz.sizeOf135
  v25 := Tryz.zeroValue135
  t39 := Tryz.underlying148
  a39 := Tryz.isAgg148
  z39 := Tryz.sizeOf148
  v39 := Tryz.zeroValue148
  t45 := Tryz.underlying162
  a45 := Tryz.isAgg162
  z45 := Tryz.sizeOf162
  v45 := Tryz.zeroValue162
  t46 := Tryz.underlying163
  a46 := Tryz.isAgg163
  z46 := Tryz.sizeOf163
  v46 := Tryz.zeroValue163
  t50 := Tryz.underlying64
  a50 := Tryz.isAgg64
  z50 := Tryz.sizeOf64
  v50 := Tryz.zeroValue64
  t53 := Tryz.underlying169
  a53 := Tryz.isAgg169
  z53 := Tryz.sizeOf169
  v53 := Tryz.zeroValue169
  t55 := Tryz.underlying171
  a55 := Tryz.isAgg171
  z55 := Tryz.sizeOf171
  v55 := Tryz.zeroValue171
  t66 := Tryz.underlying180
  a66 := Tryz.isAgg180
  z66 := Tryz.sizeOf180
  v66 := Tryz.zeroValue180
  t70 := Tryz.underlying184
  a70 := Tryz.isAgg184
  z70 := Tryz.sizeOf184
  v70 := Tryz.zeroValue184
  t76 := Tryz.underlying189
  a76 := Tryz.isAgg189
  z76 := Tryz.sizeOf189
  v76 := Tryz.zeroValue189
  t77 := Tryz.underlying97
  a77 := Tryz.isAgg97
  z77 := Tryz.sizeOf97
  v77 := Tryz.zeroValue97 }
end Go.Proofs
