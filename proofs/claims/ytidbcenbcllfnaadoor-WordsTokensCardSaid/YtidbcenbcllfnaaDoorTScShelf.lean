/-
  DERIVED: THE SHELF's CONTRACTS AT THIS DUMP, IN PLAIN WORDS (tools/lay-plain.mjs out of 'YtidbcenbcllfnaaDoorScShelf.lean', which tools/lay-shelf.mjs wrote): THE SAME DECLARATIONS UNDER THE SAME NAMES: 'import', 'namespace', 'open', 'def', 'theorem' AND NOTHING ELSE: no command of the shelf's: FOR A HAND-IN. Each laying: the table of numbers ('.._ren') and one theorem, a field a fact of the dump's own or the kernel's comparison; each contract: ONE APPLICATION.
-/
import Derived.Test.YtidbcenbcllfnaaDoorProg
import Derived.Ground.NamesProg
import Derived.Shelf.Strings.Trim
namespace Go.Proofs
open Go.Shelf
def Tryd.lays161_ren : Go.Shelf.Ren := ⟨fun | 161 => 113 | 231 => 116 | 227 => 53 | 233 => 117 | 235 => 118 | 228 => 75 | 197 => 97 | 151 => 77 | 260 => 107 | 152 => 98 | 137 => 108 | 119 => 109 | 224 => 110 | 225 => 111 | 217 => 115 | 266 => 119 | n => n, fun | 9 => 9 | 4 => 4 | 3 => 3 | 5 => 5 | 117 => 85 | 116 => 84 | 0 => 0 | 124 => 88 | 105 => 103 | 21 => 21 | 119 => 144 | 46 => 128 | 139 => 147 | 138 => 146 | n => n, fun | 3 => 6 | 4 => 7 | n => n⟩
theorem Tryd.lays161 : Go.Proofs.Lays.n161 Tryd.prog Tryd.lays161_ren := {
  mixed := by kernel_rfl
  f119 := Tryd.func109.trans (congrArg some (by kernel_rfl))
  f137 := Tryd.func108.trans (congrArg some (by kernel_rfl))
  f151 := Tryd.func77.trans (congrArg some (by kernel_rfl))
  f152 := Tryd.func98.trans (congrArg some (by kernel_rfl))
  f161 := Tryd.func113.trans (congrArg some (by kernel_rfl))
  f197 := Tryd.func97.trans (congrArg some (by kernel_rfl))
  f217 := Tryd.func115.trans (congrArg some (by kernel_rfl))
  f224 := Tryd.func110.trans (congrArg some (by kernel_rfl))
  f225 := Tryd.func111.trans (congrArg some (by kernel_rfl))
  f227 := Tryd.func53.trans (congrArg some (by kernel_rfl))
  f228 := Tryd.func75.trans (congrArg some (by kernel_rfl))
  f231 := Tryd.func116.trans (congrArg some (by kernel_rfl))
  f233 := Tryd.func117.trans (congrArg some (by kernel_rfl))
  f235 := Tryd.func118.trans (congrArg some (by kernel_rfl))
  f260 := Tryd.func107.trans (congrArg some (by kernel_rfl))
  f266 := Tryd.func119.trans (congrArg some (by kernel_rfl))
  t0 := Tryd.underlying0
  a0 := Tryd.isAgg0
  z0 := Tryd.sizeOf0
  v0 := Tryd.zeroValue0
  t3 := Tryd.underlying3
  a3 := Tryd.isAgg3
  z3 := Tryd.sizeOf3
  v3 := Tryd.zeroValue3
  t4 := Tryd.underlying4
  a4 := Tryd.isAgg4
  z4 := Tryd.sizeOf4
  v4 := Tryd.zeroValue4
  t5 := Tryd.underlying5
  a5 := Tryd.isAgg5
  z5 := Tryd.sizeOf5
  v5 := Tryd.zeroValue5
  t9 := Tryd.underlying9
  a9 := Tryd.isAgg9
  z9 := Tryd.sizeOf9
  v9 := Tryd.zeroValue9
  t21 := Tryd.underlying21
  a21 := Tryd.isAgg21
  z21 := Tryd.sizeOf21
  v21 := Tryd.zeroValue21
  t46 := Tryd.underlying128
  a46 := Tryd.isAgg128
  z46 := Tryd.sizeOf128
  v46 := Tryd.zeroValue128
  t105 := Tryd.underlying103
  a105 := Tryd.isAgg103
  z105 := Tryd.sizeOf103
  v105 := Tryd.zeroValue103
  t116 := Tryd.underlying84
  a116 := Tryd.isAgg84
  z116 := Tryd.sizeOf84
  t117 := Tryd.underlying85
  a117 := Tryd.isAgg85
  z117 := Tryd.sizeOf85
  v117 := Tryd.zeroValue85
  t119 := Tryd.underlying144
  a119 := Tryd.isAgg144
  z119 := Tryd.sizeOf144
  t124 := Tryd.underlying88
  a124 := Tryd.isAgg88
  z124 := Tryd.sizeOf88
  v124 := Tryd.zeroValue88
  t138 := Tryd.underlying146
  a138 := Tryd.isAgg146
  z138 := Tryd.sizeOf146
  v138 := Tryd.zeroValue146
  t139 := Tryd.underlying147
  a139 := Tryd.isAgg147
  z139 := Tryd.sizeOf147
  v139 := Tryd.zeroValue147
  g3 := by kernel_rfl
  g4 := by kernel_rfl }
end Go.Proofs
