/-
  DERIVED: THE SHELF's CONTRACTS AT THIS DUMP, IN PLAIN WORDS (tools/lay-plain.mjs out of 'YtmpgldggjjmkmaaDkShelf.lean', which tools/lay-shelf.mjs wrote): THE SAME DECLARATIONS UNDER THE SAME NAMES: 'import', 'namespace', 'open', 'def', 'theorem' AND NOTHING ELSE: no command of the shelf's: FOR A HAND-IN. Each laying: the table of numbers ('.._ren') and one theorem, a field a fact of the dump's own or the kernel's comparison; each contract: ONE APPLICATION.
-/
import Derived.Test.YtmpgldggjjmkmaaProg
import Derived.Ground.NamesProg
import Derived.Shelf.Sort.Plain
namespace Go.Proofs
open Go.Shelf
def Try.lays190_ren : Go.Shelf.Ren := ⟨fun | 190 => 73 | 125 => 76 | 258 => 75 | 128 => 86 | 129 => 87 | 302 => 77 | 303 => 78 | 304 => 79 | 305 => 80 | 306 => 81 | 307 => 82 | 308 => 83 | 309 => 84 | 310 => 85 | 333 => 88 | 329 => 89 | 330 => 90 | 334 => 91 | 335 => 92 | 336 => 93 | 344 => 94 | n => n, fun | 31 => 91 | 9 => 9 | 3 => 3 | 46 => 165 | 0 => 0 | 51 => 36 | 53 => 176 | 4 => 4 | 183 => 168 | 182 => 167 | 131 => 102 | 5 => 5 | 218 => 177 | 222 => 181 | 228 => 183 | 229 => 110 | n => n, fun | n => n⟩
theorem Try.lays190 : Go.Proofs.Lays.n190 Try.prog Try.lays190_ren := {
  mixed := by kernel_rfl
  f125 := Try.func76.trans (congrArg some (by kernel_rfl))
  f128 := Try.func86.trans (congrArg some (by kernel_rfl))
  f129 := Try.func87.trans (congrArg some (by kernel_rfl))
  f190 := Try.func73.trans (congrArg some (by kernel_rfl))
  f258 := Try.func75.trans (congrArg some (by kernel_rfl))
  f302 := Try.func77.trans (congrArg some (by kernel_rfl))
  f303 := Try.func78.trans (congrArg some (by kernel_rfl))
  f304 := Try.func79.trans (congrArg some (by kernel_rfl))
  f305 := Try.func80.trans (congrArg some (by kernel_rfl))
  f306 := Try.func81.trans (congrArg some (by kernel_rfl))
  f307 := Try.func82.trans (congrArg some (by kernel_rfl))
  f308 := Try.func83.trans (congrArg some (by kernel_rfl))
  f309 := Try.func84.trans (congrArg some (by kernel_rfl))
  f310 := Try.func85.trans (congrArg some (by kernel_rfl))
  f329 := Try.func89.trans (congrArg some (by kernel_rfl))
  f330 := Try.func90.trans (congrArg some (by kernel_rfl))
  f333 := Try.func88.trans (congrArg some (by kernel_rfl))
  f334 := Try.func91.trans (congrArg some (by kernel_rfl))
  f335 := Try.func92.trans (congrArg some (by kernel_rfl))
  f336 := Try.func93.trans (congrArg some (by kernel_rfl))
  f344 := Try.func94.trans (congrArg some (by kernel_rfl))
  t0 := Try.underlying0
  a0 := Try.isAgg0
  z0 := Try.sizeOf0
  v0 := Try.zeroValue0
  t3 := Try.underlying3
  a3 := Try.isAgg3
  z3 := Try.sizeOf3
  v3 := Try.zeroValue3
  t4 := Try.underlying4
  a4 := Try.isAgg4
  z4 := Try.sizeOf4
  v4 := Try.zeroValue4
  t5 := Try.underlying5
  a5 := Try.isAgg5
  z5 := Try.sizeOf5
  v5 := Try.zeroValue5
  t9 := Try.underlying9
  a9 := Try.isAgg9
  z9 := Try.sizeOf9
  v9 := Try.zeroValue9
  t31 := Try.underlying91
  a31 := Try.isAgg91
  z31 := Try.sizeOf91
  v31 := Try.zeroValue91
  t46 := Try.underlying165
  a46 := Try.isAgg165
  z46 := Try.sizeOf165
  v46 := Try.zeroValue165
  t51 := Try.underlying36
  a51 := Try.isAgg36
  z51 := Try.sizeOf36
  v51 := Try.zeroValue36
  t53 := Try.underlying176
  a53 := Try.isAgg176
  z53 := Try.sizeOf176
  v53 := Try.zeroValue176
  t131 := Try.underlying102
  a131 := Try.isAgg102
  z131 := Try.sizeOf102
  v131 := Try.zeroValue102
  t182 := Try.underlying167
  a182 := Try.isAgg167
  z182 := Try.sizeOf167
  v182 := Try.zeroValue167
  t183 := Try.underlying168
  a183 := Try.isAgg168
  z183 := Try.sizeOf168
  v183 := Try.zeroValue168
  t218 := Try.underlying177
  a218 := Try.isAgg177
  z218 := Try.sizeOf177
  v218 := Try.zeroValue177
  t222 := Try.underlying181
  a222 := Try.isAgg181
  z222 := Try.sizeOf181
  v222 := Try.zeroValue181
  t228 := Try.underlying183
  a228 := Try.isAgg183
  z228 := Try.sizeOf183
  v228 := Try.zeroValue183
  t229 := Try.underlying110
  a229 := Try.isAgg110
  z229 := Try.sizeOf110
  v229 := Try.zeroValue110 }
end Go.Proofs
