/- A pair of disks and one call of a script in memory; each disk's step. Condition: none. -/
import Derived.Test.YthneomomhoilkaaDoorMDkMadeL
import Derived.Test.YthneomomhoilkaaDoorMB
import Derived.Test.YthneomomhoilkaaDoorMDkPapp
import Derived.Test.YthneomomhoilkaaDoorMDkPrest
import Derived.Test.YthneomomhoilkaaDoorMDkSort
import Derived.Test.YthneomomhoilkaaDoorMD
import Derived.Test.YthneomomhoilkaaDoorML
namespace Go.Proofs.YthneomomhoilkaaDoor.PA
open Go.RowKit Go.Maps Go.Proofs.YthneomomhoilkaaDoorW.PrintWords Go.Proofs.YthneomomhoilkaaDoorW.PrintLast Go.Proofs.YthneomomhoilkaaDoorW.PrintMore
set_option linter.unusedVariables false
set_option linter.unusedSimpArgs false
structure OpV where
  kind : Int
  n : Int
  m : Int
  sec : Bool
  nm : ByteArray
  DA : Option Addr
  dc : Nat
  data : List Int
  KA : Option Addr
  kc : Nat
  keep : List Int
  sum : Int
def OpV.cells (o : OpV) : Array Value := #[.int .i64 o.kind, .int .i64 o.n, .int .i64 o.m, .bool o.sec, .string o.nm, .slice o.DA o.data.length o.dc, .slice o.KA o.keep.length o.kc, .int .u32 o.sum]
section
variable {b : Nat} {w W W' : World} {col col' : RCol} {g gP gR q : Nat} {o : OpV} {dP dR d' : Dk}
end
end Go.Proofs.YthneomomhoilkaaDoor.PA
