/- (with tokens) The room's hold functions, where every list of the room is empty: each says true. Condition: the room's cell of that list holds nil. -/
import Derived.Test.YthneomomhoilkaaDoorML
import Derived.WalkKit
namespace Go.Proofs.YthneomomhoilkaaDoor.PA
open Go.RowKit Go.Proofs.YthneomomhoilkaaDoorW.PrintWords Go.Proofs.YthneomomhoilkaaDoorW.PrintLast Go.Proofs.YthneomomhoilkaaDoorW.PrintMore
set_option linter.unusedVariables false
set_option linter.unusedSimpArgs false
set_option maxRecDepth 100000
set_option maxHeartbeats 2000000
end Go.Proofs.YthneomomhoilkaaDoor.PA
