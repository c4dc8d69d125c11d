/- The Go functions of this seat that the laws of part A come to, each as a plain Lean function ('f', its loops 'l0' ..) with a proof that the call comes to its answer. Conditions: where a function comes to a package-level table, the world holds that table ('Tabs'). Written by a program of this session (a changed copy of the print). -/
import Derived.Test.YtplmledhcffedaaDoorProg
import Derived.Below
import Derived.Deep.Draws
import Derived.Deep.AppendLies
import Derived.Maps.AppendAt
import Derived.OwnWalk
import Derived.Laws.BytesArg
import Derived.Laws.MakeOwn
import Derived.Laws.OwnMore
import Derived.Deep.OwnRows
import Derived.Tactics
import Derived.Lib.ConvBytes
import Derived.Laws.Slices
import Derived.WalkKit
import Derived.KernelRfl
import Derived.RowKit3
import Derived.Deep.LoopGhost
import Derived.Deep.QuietTactic
import Derived.BigQuiet
import Derived.WideLaws
import Derived.Deep.DeepCutAuto
import Derived.Deep.CutBlock
import Derived.Deep.RegionHeld3
import Derived.Laws.Rows
import Derived.Lib.AppendStr
import Derived.ArgAppend
import Derived.Laws.IdiomCopy
import Derived.OrdersHeld
import Derived.Laws.BitsLemmas
import Derived.RowKit
import Derived.Test.YtplmledhcffedaaDoorWWords
import Derived.Test.YtplmledhcffedaaDoorWLast
import Derived.Test.YtplmledhcffedaaDoorWTab
import Derived.Test.YtplmledhcffedaaDoorWFour
import Derived.Test.YtplmledhcffedaaDoorWQPut
import Derived.Test.YtplmledhcffedaaDoorWApart
import Derived.Test.YtplmledhcffedaaDoorWArr
import Derived.Test.YtplmledhcffedaaDoorWZeros
import Derived.Test.YtplmledhcffedaaDoorWFoot
import Derived.Test.YtplmledhcffedaaDoorWKept
import Derived.Test.YtplmledhcffedaaDoorWShare
import Derived.Test.YtplmledhcffedaaDoorWN
import Derived.Test.YtplmledhcffedaaDoorWFootNe
import Derived.Test.YtplmledhcffedaaDoorWAt
import Derived.Test.YtplmledhcffedaaDoorWEqStruct
import Derived.Test.YtplmledhcffedaaDoorWRepsOne
import Derived.Test.YtplmledhcffedaaDoorWInv
import Derived.Test.YtplmledhcffedaaDoorWInvWords
import Derived.Test.YtplmledhcffedaaDoorWGuard
import Derived.Test.YtplmledhcffedaaDoorWNEv
import Derived.Test.YtplmledhcffedaaDoorWMore
namespace Go.Proofs.YtplmledhcffedaaDoor.PA
open Go.RowKit Go.Proofs.YtplmledhcffedaaDoorW.PrintWords Go.Proofs.YtplmledhcffedaaDoorW.PrintLast Go.Proofs.YtplmledhcffedaaDoorW.PrintMore
attribute [local go_sem] max2_int min2_int max_two min_two max_three min_three max_four min_four   -- for this text's walks alone
set_option linter.unusedVariables false
set_option linter.unusedSimpArgs false



def errW : Option Int → Value
  | none => .nilIface
  | some c => .iface 0 (.int .i64 c)
theorem errW_none : errW none = .nilIface := rfl
theorem errW_some (c : Int) : errW (some c) = .iface 0 (.int .i64 c) := rfl

theorem info5 : (Tryd.prog.info? 5).map (fun i => (i.zero, i.size, i.bytes)) = some (some (.int .u8 0), 1, 1) := by kernel_rfl
-- the values' own types

end Go.Proofs.YtplmledhcffedaaDoor.PA
