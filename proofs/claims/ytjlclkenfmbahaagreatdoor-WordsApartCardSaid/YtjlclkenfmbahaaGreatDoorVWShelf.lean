/-
 DERIVED: THE SHELF's CONTRACTS AT THIS DUMP, IN PLAIN WORDS (tools/lay-plain.mjs out of 'YtjlclkenfmbahaaGreatDoorWShelf.lean', which tools/lay-shelf.mjs wrote): THE SAME DECLARATIONS UNDER THE SAME NAMES: 'import', 'namespace', 'open', 'def', 'theorem' AND NOTHING ELSE: no command of the shelf's: FOR A HAND-IN. Each laying: the table of numbers ('.._ren') and one theorem, a field a fact of the dump's own or the kernel's comparison; each contract: ONE APPLICATION.
-/
import Derived.Test.YtjlclkenfmbahaaGreatDoorProg
import Derived.Ground.NamesProg
import Derived.Shelf.Strconv.Itoa4
import Derived.Shelf.Strings.Trim
import Derived.Shelf.Strings.Builder1
import Derived.Shelf.Strings.BuilderF
import Derived.Shelf.Strings.BuilderK
namespace Go.Proofs
open Go.Shelf
def Tryz.lays161_ren : Go.Shelf.Ren := ⟨fun | 161 => 231 | 231 => 238 | 227 => 193 | 233 => 239 | 235 => 240 | 228 => 214 | 197 => 229 | 151 => 216 | 260 => 233 | 152 => 230 | 137 => 234 | 119 => 235 | 224 => 236 | 225 => 237 | 217 => 241 | 266 => 242 | n => n, fun | 9 => 9 | 4 => 4 | 3 => 3 | 5 => 5 | 117 => 221 | 116 => 220 | 0 => 0 | 124 => 224 | 105 => 239 | 21 => 21 | 119 => 257 | 46 => 237 | 139 => 260 | 138 => 259 | n => n, fun | 3 => 6 | 4 => 7 | n => n⟩
theorem Tryz.lays161 : Go.Proofs.Lays.n161 Tryz.prog Tryz.lays161_ren := {
 mixed := by kernel_rfl
 f119 := Tryz.func235.trans (congrArg some (by kernel_rfl))
 f137 := Tryz.func234.trans (congrArg some (by kernel_rfl))
 f151 := Tryz.func216.trans (congrArg some (by kernel_rfl))
 f152 := Tryz.func230.trans (congrArg some (by kernel_rfl))
 f161 := Tryz.func231.trans (congrArg some (by kernel_rfl))
 f197 := Tryz.func229.trans (congrArg some (by kernel_rfl))
 f217 := Tryz.func241.trans (congrArg some (by kernel_rfl))
 f224 := Tryz.func236.trans (congrArg some (by kernel_rfl))
 f225 := Tryz.func237.trans (congrArg some (by kernel_rfl))
 f227 := Tryz.func193.trans (congrArg some (by kernel_rfl))
 f228 := Tryz.func214.trans (congrArg some (by kernel_rfl))
 f231 := Tryz.func238.trans (congrArg some (by kernel_rfl))
 f233 := Tryz.func239.trans (congrArg some (by kernel_rfl))
 f235 := Tryz.func240.trans (congrArg some (by kernel_rfl))
 f260 := Tryz.func233.trans (congrArg some (by kernel_rfl))
 f266 := Tryz.func242.trans (congrArg some (by kernel_rfl))
 t0 := Tryz.underlying0
 a0 := Tryz.isAgg0
 z0 := Tryz.sizeOf0
 v0 := Tryz.zeroValue0
 t3 := Tryz.underlying3
 a3 := Tryz.isAgg3
 z3 := Tryz.sizeOf3
 v3 := Tryz.zeroValue3
 t4 := Tryz.underlying4
 a4 := Tryz.isAgg4
 z4 := Tryz.sizeOf4
 v4 := Tryz.zeroValue4
 t5 := Tryz.underlying5
 a5 := Tryz.isAgg5
 z5 := Tryz.sizeOf5
 v5 := Tryz.zeroValue5
 t9 := Tryz.underlying9
 a9 := Tryz.isAgg9
 z9 := Tryz.sizeOf9
 v9 := Tryz.zeroValue9
 t21 := Tryz.underlying21
 a21 := Tryz.isAgg21
 z21 := Tryz.sizeOf21
 v21 := Tryz.zeroValue21
 t46 := Tryz.underlying237
 a46 := Tryz.isAgg237
 z46 := Tryz.sizeOf237
 v46 := Tryz.zeroValue237
 t105 := Tryz.underlying239
 a105 := Tryz.isAgg239
 z105 := Tryz.sizeOf239
 v105 := Tryz.zeroValue239
 t116 := Tryz.underlying220
 a116 := Tryz.isAgg220
 z116 := Tryz.sizeOf220
 t117 := Tryz.underlying221
 a117 := Tryz.isAgg221
 z117 := Tryz.sizeOf221
 v117 := Tryz.zeroValue221
 t119 := Tryz.underlying257
 a119 := Tryz.isAgg257
 z119 := Tryz.sizeOf257
 t124 := Tryz.underlying224
 a124 := Tryz.isAgg224
 z124 := Tryz.sizeOf224
 v124 := Tryz.zeroValue224
 t138 := Tryz.underlying259
 a138 := Tryz.isAgg259
 z138 := Tryz.sizeOf259
 v138 := Tryz.zeroValue259
 t139 := Tryz.underlying260
 a139 := Tryz.isAgg260
 z139 := Tryz.sizeOf260
 v139 := Tryz.zeroValue260
 g3 := by kernel_rfl
 g4 := by kernel_rfl }
end Go.Proofs
