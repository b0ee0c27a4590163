/- The Go functions that the laws reach, as Lean functions, and that each call comes to what its function says. Written by a program of this session (a turned copy of the kit's print). No condition beyond those that each theorem states. -/
import Derived.Test.YtegifiagobienaaDoorPAllx0
import Derived.Test.YtegifiagobienaaDoorPAllx1
import Derived.Test.YtegifiagobienaaDoorPAllx2
import Derived.Test.YtegifiagobienaaDoorPAllx3
namespace Go.Proofs.YtegifiagobienaaDoor.PAll
open Go.RowKit Go.Proofs.YtegifiagobienaaDoorW.PrintWords Go.Proofs.YtegifiagobienaaDoorW.PrintLast Go.Proofs.YtegifiagobienaaDoorW.PrintMore
attribute [local go_sem] max2_int min2_int max_two min_two max_three min_three max_four min_four   -- for this text's walks alone
set_option linter.unusedVariables false
set_option linter.unusedSimpArgs false

end Go.Proofs.YtegifiagobienaaDoor.PAll
