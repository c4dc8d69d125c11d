/- (with tokens) The room's hold functions, where every list of the room is empty: each says true. Condition: the room's cell of that list holds nil. -/
import Derived.Test.YtjonopjdibghoaaDoorML
import Derived.WalkKit
namespace Go.Proofs.YtjonopjdibghoaaDoor.PA
open Go.RowKit Go.Proofs.YtjonopjdibghoaaDoorW.PrintWords Go.Proofs.YtjonopjdibghoaaDoorW.PrintLast Go.Proofs.YtjonopjdibghoaaDoorW.PrintMore
set_option linter.unusedVariables false
set_option linter.unusedSimpArgs false
set_option maxRecDepth 100000
set_option maxHeartbeats 2000000
end Go.Proofs.YtjonopjdibghoaaDoor.PA
