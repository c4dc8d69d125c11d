/- The room's Hold: true, where the lists of bytes, ints and files hold and the room has no others. Condition: so each of the three holds. -/
import Derived.Test.YthneomomhoilkaaDoorMDkHoldF
import Derived.Test.YthneomomhoilkaaDoorMDkHoldN
import Derived.Test.YthneomomhoilkaaDoorML
namespace Go.Proofs.YthneomomhoilkaaDoor.PA
open Go.RowKit Go.Maps Go.Proofs.YthneomomhoilkaaDoorW.PrintWords Go.Proofs.YthneomomhoilkaaDoorW.PrintLast Go.Proofs.YthneomomhoilkaaDoorW.PrintMore
set_option linter.unusedVariables false
set_option linter.unusedSimpArgs false
end Go.Proofs.YthneomomhoilkaaDoor.PA
