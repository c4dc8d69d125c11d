/- The room's Hold: true, where the lists of bytes, ints and files hold and the room has no others. Condition: so each of the three holds. -/
import Derived.Test.YtjonopjdibghoaaDoorMDkHoldF
import Derived.Test.YtjonopjdibghoaaDoorMDkHoldN
import Derived.Test.YtjonopjdibghoaaDoorML
namespace Go.Proofs.YtjonopjdibghoaaDoor.PA
open Go.RowKit Go.Maps Go.Proofs.YtjonopjdibghoaaDoorW.PrintWords Go.Proofs.YtjonopjdibghoaaDoorW.PrintLast Go.Proofs.YtjonopjdibghoaaDoorW.PrintMore
set_option linter.unusedVariables false
set_option linter.unusedSimpArgs false
end Go.Proofs.YtjonopjdibghoaaDoor.PA
