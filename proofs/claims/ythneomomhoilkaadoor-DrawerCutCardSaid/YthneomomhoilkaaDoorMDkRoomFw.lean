/- The room's Files walked: a copy of a list of files, every list with its marks. Condition: the list is one that can be. -/
import Derived.Test.YthneomomhoilkaaDoorMDkRoomF
import Derived.Maps.AppendAt
import Derived.Test.YthneomomhoilkaaDoorML
namespace Go.Proofs.YthneomomhoilkaaDoor.PA
open Go.RowKit Go.Maps Go.Proofs.YthneomomhoilkaaDoorW.PrintWords Go.Proofs.YthneomomhoilkaaDoorW.PrintLast Go.Proofs.YthneomomhoilkaaDoorW.PrintMore
set_option linter.unusedVariables false
set_option linter.unusedSimpArgs false
section
variable {P : Program} {ops : Array Oper} {rest : List Oper} {o : Oper} {a : Act} {Q : Exit → Act → World → Prop}
end
end Go.Proofs.YthneomomhoilkaaDoor.PA
