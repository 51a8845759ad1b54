/-
  DERIVED: THE SHELF's CONTRACTS AT THIS DUMP, IN PLAIN WORDS (tools/lay-plain.mjs out of 'TryShelf.lean', which tools/lay-shelf.mjs wrote): THE SAME DECLARATIONS UNDER THE SAME NAMES: 'import', 'namespace', 'open', 'def', 'theorem' AND NOTHING ELSE: no command of the shelf's: FOR A HAND-IN. Each laying: the table of numbers ('.._ren') and one theorem, a field a fact of the dump's own or the kernel's comparison; each contract: ONE APPLICATION.
-/
import Derived.Shelf.Small.Bits
import Derived.Shelf.Strconv.Itoa0
import Derived.Shelf.Sort.Plain
import Derived.Ground.Names2Prog
import Derived.Shelf.Slices.SearchI
import Derived.Shelf.Slices.In.SortNone
import Derived.Shelf.SlGeneric
import Derived.Shelf.SlIterI.Sorted
import Derived.Ground.GgzProg
import Derived.Test.YtnfaeafplaeehaaProg
namespace Go.Proofs
open Go.Shelf
def Try.lays189_ren : Go.Shelf.Ren := ⟨fun | 189 => 95 | 125 => 116 | 257 => 115 | 128 => 137 | 129 => 138 | 294 => 128 | 295 => 129 | 296 => 130 | 297 => 131 | 298 => 132 | 299 => 133 | 216 => 134 | 300 => 135 | 301 => 136 | 328 => 154 | 329 => 155 | 330 => 156 | 331 => 157 | 332 => 158 | 215 => 119 | 343 => 166 | n => n, fun | 28 => 91 | 3 => 3 | 46 => 73 | 0 => 0 | 51 => 23 | 53 => 211 | 4 => 4 | 183 => 203 | 182 => 202 | 131 => 207 | 5 => 5 | 9 => 9 | 218 => 222 | 222 => 226 | 228 => 234 | 229 => 235 | n => n, fun | n => n⟩
theorem Try.lays189 : Go.Proofs.Lays.n189 Try.prog Try.lays189_ren := {
  mixed := by kernel_rfl
  f125 := Try.func116.trans (congrArg some (by kernel_rfl))
  f128 := Try.func137.trans (congrArg some (by kernel_rfl))
  f129 := Try.func138.trans (congrArg some (by kernel_rfl))
  f189 := Try.func95.trans (congrArg some (by kernel_rfl))
  f215 := Try.func119.trans (congrArg some (by kernel_rfl))
  f216 := Try.func134.trans (congrArg some (by kernel_rfl))
  f257 := Try.func115.trans (congrArg some (by kernel_rfl))
  f294 := Try.func128.trans (congrArg some (by kernel_rfl))
  f295 := Try.func129.trans (congrArg some (by kernel_rfl))
  f296 := Try.func130.trans (congrArg some (by kernel_rfl))
  f297 := Try.func131.trans (congrArg some (by kernel_rfl))
  f298 := Try.func132.trans (congrArg some (by kernel_rfl))
  f299 := Try.func133.trans (congrArg some (by kernel_rfl))
  f300 := Try.func135.trans (congrArg some (by kernel_rfl))
  f301 := Try.func136.trans (congrArg some (by kernel_rfl))
  f328 := Try.func154.trans (congrArg some (by kernel_rfl))
  f329 := Try.func155.trans (congrArg some (by kernel_rfl))
  f330 := Try.func156.trans (congrArg some (by kernel_rfl))
  f331 := Try.func157.trans (congrArg some (by kernel_rfl))
  f332 := Try.func158.trans (congrArg some (by kernel_rfl))
  f343 := Try.func166.trans (congrArg some (by kernel_rfl))
  t0 := Try.underlying0
  a0 := Try.isAgg0
  z0 := Try.sizeOf0
  v0 := Try.zeroValue0
  t3 := Try.underlying3
  a3 := Try.isAgg3
  z3 := Try.sizeOf3
  v3 := Try.zeroValue3
  t4 := Try.underlying4
  a4 := Try.isAgg4
  z4 := Try.sizeOf4
  v4 := Try.zeroValue4
  t5 := Try.underlying5
  a5 := Try.isAgg5
  z5 := Try.sizeOf5
  v5 := Try.zeroValue5
  t9 := Try.underlying9
  a9 := Try.isAgg9
  z9 := Try.sizeOf9
  v9 := Try.zeroValue9
  t28 := Try.underlying91
  a28 := Try.isAgg91
  z28 := Try.sizeOf91
  v28 := Try.zeroValue91
  t46 := Try.underlying73
  a46 := Try.isAgg73
  z46 := Try.sizeOf73
  v46 := Try.zeroValue73
  t51 := Try.underlying23
  a51 := Try.isAgg23
  z51 := Try.sizeOf23
  v51 := Try.zeroValue23
  t53 := Try.underlying211
  a53 := Try.isAgg211
  z53 := Try.sizeOf211
  v53 := Try.zeroValue211
  t131 := Try.underlying207
  a131 := Try.isAgg207
  z131 := Try.sizeOf207
  v131 := Try.zeroValue207
  t182 := Try.underlying202
  a182 := Try.isAgg202
  z182 := Try.sizeOf202
  v182 := Try.zeroValue202
  t183 := Try.underlying203
  a183 := Try.isAgg203
  z183 := Try.sizeOf203
  v183 := Try.zeroValue203
  t218 := Try.underlying222
  a218 := Try.isAgg222
  z218 := Try.sizeOf222
  v218 := Try.zeroValue222
  t222 := Try.underlying226
  a222 := Try.isAgg226
  z222 := Try.sizeOf226
  v222 := Try.zeroValue226
  t228 := Try.underlying234
  a228 := Try.isAgg234
  z228 := Try.sizeOf234
  v228 := Try.zeroValue234
  t229 := Try.underlying235
  a229 := Try.isAgg235
  z229 := Try.sizeOf235
  v229 := Try.zeroValue235 }
open Go.Sort Go.RowKit in
theorem Try.slices_Sort_int (blk off cap : Nat) (zs : List Int) (w : World) (hH : Holds (Value.int .i64) w blk off zs.toArray) (hblk : blk < w.heap.size) (hsz : zs.length < 4611686018427387904) :
    Calls Try.prog 95 #[.slice (some ⟨blk, off, none⟩) zs.length cap] w fun e w' =>
      e = .returned (.tuple #[]) ∧ ∃ n os, w' = grow (putRow (Value.int .i64) (Sort.ahead w n) blk off (zs.mergeSort fun x y => decide (x ≤ y)).toArray) os := Any.slices_Sort_int Try.lays189 blk off cap zs w hH hblk hsz
open Go.RowKit Go.Sort in
/-- .. and plain. (LAID: no walk: one application.) -/
theorem Try.slices_Sort_int_none (p : Option Addr) (cap : Nat) (w : World) :
    Calls Try.prog 95 #[.slice p 0 cap] w fun e w' => e = .returned (.tuple #[]) ∧ w' = w := Any.slices_Sort_int_none Try.lays189 p cap w
def Try.sortedI_ren : Go.Shelf.Ren := ⟨fun | 6 => 62 | 8 => 94 | 9 => 95 | 11 => 114 | 13 => 116 | 12 => 115 | 23 => 137 | 24 => 138 | 14 => 128 | 15 => 129 | 16 => 130 | 17 => 131 | 18 => 132 | 19 => 133 | 20 => 134 | 21 => 135 | 22 => 136 | 25 => 154 | 26 => 155 | 27 => 156 | 28 => 157 | 29 => 158 | 30 => 119 | 31 => 166 | n => n, fun | 26 => 3 | 28 => 131 | 24 => 91 | 0 => 0 | 3 => 3 | 37 => 73 | 48 => 23 | 50 => 211 | 4 => 4 | 40 => 203 | 39 => 202 | 45 => 207 | 5 => 5 | 9 => 9 | 51 => 222 | 55 => 226 | 57 => 234 | 58 => 235 | 33 => 167 | n => n, fun | n => n⟩
theorem Try.sortedI : Go.Proofs.SlLaysZI.n6 Try.prog Try.sortedI_ren := {
  mixed := by kernel_rfl
  f6 := ⟨Try.f62.name, by decide, Try.func62.trans (congrArg some (by kernel_rfl))⟩
  f8 := ⟨Try.f94.name, by decide, Try.func94.trans (congrArg some (by kernel_rfl))⟩
  f11 := ⟨Try.f114.name, by decide, Try.func114.trans (congrArg some (by kernel_rfl))⟩
  t0 := Try.underlying0
  a0 := Try.isAgg0
  z0 := Try.sizeOf0
  v0 := Try.zeroValue0
  t24 := Try.underlying91
  a24 := Try.isAgg91
  z24 := Try.sizeOf91
  v24 := Try.zeroValue91
  t26 := Try.underlying3
  a26 := Try.isAgg3
  z26 := Try.sizeOf3
  v26 := Try.zeroValue3
  t28 := Try.underlying131
  a28 := Try.isAgg131
  z28 := Try.sizeOf131
  v28 := Try.zeroValue131
  i26 := by kernel_rfl }
end Go.Proofs
