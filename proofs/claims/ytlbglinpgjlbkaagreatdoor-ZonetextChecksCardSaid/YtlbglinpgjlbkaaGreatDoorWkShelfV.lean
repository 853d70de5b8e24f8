/-
  DERIVED: THE SHELF's CONTRACTS AT THIS DUMP, IN PLAIN WORDS (tools/lay-plain.mjs out of 'YtlbglinpgjlbkaaGreatDoorWkShelfV.lean', which tools/lay-shelf.mjs wrote): THE SAME DECLARATIONS UNDER THE SAME NAMES: 'import', 'namespace', 'open', 'def', 'theorem' AND NOTHING ELSE: no command of the shelf's: FOR A HAND-IN. Each laying: the table of numbers ('.._ren') and one theorem, a field a fact of the dump's own or the kernel's comparison; each contract: ONE APPLICATION.
-/
import Derived.Shelf.Strings.Builder1
import Derived.Shelf.Strings.Builder2
import Derived.Shelf.Strings.OnBuilder
import Derived.Shelf.Small.Bits
import Derived.Shelf.Small.Strs
import Derived.Shelf.Small.Wraps
import Derived.Shelf.Strings.BuilderF
import Derived.Shelf.Strings.BuilderK
import Derived.Shelf.Utf8.RuneCount
import Derived.Shelf.Strings.Builder2Cap
import Derived.Shelf.Strconv.Itoa0
import Derived.Shelf.Strconv.Itoa1
import Derived.Shelf.LaysM
import Derived.Shelf.Strconv.Itoa2
import Derived.Shelf.Strconv.Itoa3
import Derived.Shelf.Strings.Search1
import Derived.Shelf.Strings.Search2
import Derived.Shelf.Strings.Search3
import Derived.Shelf.Strings.Cut
import Derived.Shelf.Strings.Count
import Derived.Shelf.Strings.Shaped
import Derived.Shelf.Sort.Plain
import Derived.Shelf.Strings.Prefix
import Derived.Shelf.Strings.Split
import Derived.Shelf.Strings.Replace
import Derived.Shelf.Strings.SplitShaped
import Derived.Shelf.Unicode.Decode
import Derived.Shelf.Strings.RuneCount
import Derived.Shelf.Strings.Explode
import Derived.Shelf.Unicode.DecodeSlow
import Derived.Shelf.Unicode.DecodeAny
import Derived.Shelf.Strings.BuilderCap
import Derived.Shelf.Slices.Turned
import Derived.Shelf.Slices.Equal
import Derived.Shelf.Slices.In.SortNone
import Derived.Shelf.Slices.Empties2
import Derived.Test.YtlbglinpgjlbkaaGreatDoorProg
namespace Go.Proofs
open Go.Shelf
def Tryz.lays190_ren : Go.Shelf.Ren := ⟨fun | 190 => 110 | 125 => 176 | 258 => 175 | 128 => 211 | 129 => 212 | 302 => 202 | 303 => 203 | 304 => 204 | 305 => 205 | 306 => 206 | 307 => 207 | 308 => 208 | 309 => 209 | 310 => 210 | 333 => 230 | 329 => 231 | 330 => 232 | 334 => 233 | 335 => 234 | 336 => 235 | 344 => 247 | n => n, fun | 31 => 71 | 9 => 9 | 3 => 3 | 46 => 186 | 0 => 0 | 51 => 211 | 53 => 213 | 4 => 4 | 183 => 205 | 182 => 204 | 131 => 192 | 5 => 5 | 218 => 223 | 222 => 227 | 228 => 237 | 229 => 136 | n => n, fun | n => n⟩
theorem Tryz.lays190 : Go.Proofs.Lays.n190 Tryz.prog Tryz.lays190_ren := {
  mixed := by kernel_rfl
  f125 := Tryz.func176.trans (congrArg some (by kernel_rfl))
  f128 := Tryz.func211.trans (congrArg some (by kernel_rfl))
  f129 := Tryz.func212.trans (congrArg some (by kernel_rfl))
  f190 := Tryz.func110.trans (congrArg some (by kernel_rfl))
  f258 := Tryz.func175.trans (congrArg some (by kernel_rfl))
  f302 := Tryz.func202.trans (congrArg some (by kernel_rfl))
  f303 := Tryz.func203.trans (congrArg some (by kernel_rfl))
  f304 := Tryz.func204.trans (congrArg some (by kernel_rfl))
  f305 := Tryz.func205.trans (congrArg some (by kernel_rfl))
  f306 := Tryz.func206.trans (congrArg some (by kernel_rfl))
  f307 := Tryz.func207.trans (congrArg some (by kernel_rfl))
  f308 := Tryz.func208.trans (congrArg some (by kernel_rfl))
  f309 := Tryz.func209.trans (congrArg some (by kernel_rfl))
  f310 := Tryz.func210.trans (congrArg some (by kernel_rfl))
  f329 := Tryz.func231.trans (congrArg some (by kernel_rfl))
  f330 := Tryz.func232.trans (congrArg some (by kernel_rfl))
  f333 := Tryz.func230.trans (congrArg some (by kernel_rfl))
  f334 := Tryz.func233.trans (congrArg some (by kernel_rfl))
  f335 := Tryz.func234.trans (congrArg some (by kernel_rfl))
  f336 := Tryz.func235.trans (congrArg some (by kernel_rfl))
  f344 := Tryz.func247.trans (congrArg some (by kernel_rfl))
  t0 := Tryz.underlying0
  a0 := Tryz.isAgg0
  z0 := Tryz.sizeOf0
  v0 := Tryz.zeroValue0
  t3 := Tryz.underlying3
  a3 := Tryz.isAgg3
  z3 := Tryz.sizeOf3
  v3 := Tryz.zeroValue3
  t4 := Tryz.underlying4
  a4 := Tryz.isAgg4
  z4 := Tryz.sizeOf4
  v4 := Tryz.zeroValue4
  t5 := Tryz.underlying5
  a5 := Tryz.isAgg5
  z5 := Tryz.sizeOf5
  v5 := Tryz.zeroValue5
  t9 := Tryz.underlying9
  a9 := Tryz.isAgg9
  z9 := Tryz.sizeOf9
  v9 := Tryz.zeroValue9
  t31 := Tryz.underlying71
  a31 := Tryz.isAgg71
  z31 := Tryz.sizeOf71
  v31 := Tryz.zeroValue71
  t46 := Tryz.underlying186
  a46 := Tryz.isAgg186
  z46 := Tryz.sizeOf186
  v46 := Tryz.zeroValue186
  t51 := Tryz.underlying211
  a51 := Tryz.isAgg211
  z51 := Tryz.sizeOf211
  v51 := Tryz.zeroValue211
  t53 := Tryz.underlying213
  a53 := Tryz.isAgg213
  z53 := Tryz.sizeOf213
  v53 := Tryz.zeroValue213
  t131 := Tryz.underlying192
  a131 := Tryz.isAgg192
  z131 := Tryz.sizeOf192
  v131 := Tryz.zeroValue192
  t182 := Tryz.underlying204
  a182 := Tryz.isAgg204
  z182 := Tryz.sizeOf204
  v182 := Tryz.zeroValue204
  t183 := Tryz.underlying205
  a183 := Tryz.isAgg205
  z183 := Tryz.sizeOf205
  v183 := Tryz.zeroValue205
  t218 := Tryz.underlying223
  a218 := Tryz.isAgg223
  z218 := Tryz.sizeOf223
  v218 := Tryz.zeroValue223
  t222 := Tryz.underlying227
  a222 := Tryz.isAgg227
  z222 := Tryz.sizeOf227
  v222 := Tryz.zeroValue227
  t228 := Tryz.underlying237
  a228 := Tryz.isAgg237
  z228 := Tryz.sizeOf237
  v228 := Tryz.zeroValue237
  t229 := Tryz.underlying136
  a229 := Tryz.isAgg136
  z229 := Tryz.sizeOf136
  v229 := Tryz.zeroValue136 }
open Go.Sort Go.RowKit in
theorem Tryz.slices_Sort_string (blk off cap : Nat) (ss : List (List UInt8)) (w : World) (hH : Holds encStr w blk off ss.toArray) (hblk : blk < w.heap.size) (hsz : ss.length < 4611686018427387904) :
    Calls Tryz.prog 110 #[.slice (some ⟨blk, off, none⟩) ss.length cap] w fun e w' =>
      e = .returned (.tuple #[]) ∧ ∃ n os, w' = grow (putRow encStr (Sort.ahead w n) blk off (ss.mergeSort fun x y => decide (x ≤ y)).toArray) os := Any.slices_Sort_string Tryz.lays190 blk off cap ss w hH hblk hsz
open Go.RowKit Go.Sort in
/-- .. and plain. (LAID: no walk: one application.) -/
theorem Tryz.slices_Sort_string_none (p : Option Addr) (cap : Nat) (w : World) :
    Calls Tryz.prog 110 #[.slice p 0 cap] w fun e w' => e = .returned (.tuple #[]) ∧ w' = w := Any.slices_Sort_string_none Tryz.lays190 p cap w
end Go.Proofs
