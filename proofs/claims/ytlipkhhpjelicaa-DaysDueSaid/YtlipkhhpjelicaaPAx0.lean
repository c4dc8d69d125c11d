/- The Go functions of this seat that the laws of part A come to, each as a plain Lean function ('f', its loops 'l0' ..) with a proof that the call comes to its answer. Conditions: where a function comes to a package-level table, the world holds that table ('Tabs'). Written by a program of this session (a changed copy of the print). -/
import Derived.Test.YtlipkhhpjelicaaProg
import Derived.Below
import Derived.Deep.Draws
import Derived.Deep.AppendLies
import Derived.Maps.AppendAt
import Derived.OwnWalk
import Derived.Laws.BytesArg
import Derived.Laws.MakeOwn
import Derived.Laws.OwnMore
import Derived.Deep.OwnRows
import Derived.Tactics
import Derived.Lib.ConvBytes
import Derived.Laws.Slices
import Derived.WalkKit
import Derived.KernelRfl
import Derived.RowKit3
import Derived.Deep.LoopGhost
import Derived.Deep.QuietTactic
import Derived.BigQuiet
import Derived.WideLaws
import Derived.Deep.DeepCutAuto
import Derived.Deep.CutBlock
import Derived.Deep.RegionHeld3
import Derived.Laws.Rows
import Derived.Lib.AppendStr
import Derived.ArgAppend
import Derived.Laws.IdiomCopy
import Derived.OrdersHeld
import Derived.Laws.BitsLemmas
import Derived.RowKit
import Derived.Test.YtlipkhhpjelicaaWWords
import Derived.Test.YtlipkhhpjelicaaWLast
import Derived.Test.YtlipkhhpjelicaaWTab
import Derived.Test.YtlipkhhpjelicaaWFour
import Derived.Test.YtlipkhhpjelicaaWQPut
import Derived.Test.YtlipkhhpjelicaaWApart
import Derived.Test.YtlipkhhpjelicaaWArr
import Derived.Test.YtlipkhhpjelicaaWZeros
import Derived.Test.YtlipkhhpjelicaaWFoot
import Derived.Test.YtlipkhhpjelicaaWKept
import Derived.Test.YtlipkhhpjelicaaWShare
import Derived.Test.YtlipkhhpjelicaaWN
import Derived.Test.YtlipkhhpjelicaaWFootNe
import Derived.Test.YtlipkhhpjelicaaWAt
import Derived.Test.YtlipkhhpjelicaaWEqStruct
import Derived.Test.YtlipkhhpjelicaaWRepsOne
import Derived.Test.YtlipkhhpjelicaaWInv
import Derived.Test.YtlipkhhpjelicaaWInvWords
import Derived.Test.YtlipkhhpjelicaaWGuard
import Derived.Test.YtlipkhhpjelicaaWNEv
import Derived.Test.YtlipkhhpjelicaaWMore
namespace Go.Proofs.Ytlipkhhpjelicaa.PA
open Go.RowKit Go.Proofs.YtlipkhhpjelicaaW.PrintWords Go.Proofs.YtlipkhhpjelicaaW.PrintLast Go.Proofs.YtlipkhhpjelicaaW.PrintMore
attribute [local go_sem] max2_int min2_int max_two min_two max_three min_three max_four min_four   -- for this text's walks alone
set_option linter.unusedVariables false
set_option linter.unusedSimpArgs false



def errW : Option Int → Value
  | none => .nilIface
  | some c => .iface 0 (.int .i64 c)
theorem errW_none : errW none = .nilIface := rfl
theorem errW_some (c : Int) : errW (some c) = .iface 0 (.int .i64 c) := rfl

-- the values' own types

end Go.Proofs.Ytlipkhhpjelicaa.PA
