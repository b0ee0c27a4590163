/- The Go functions that the laws reach, as Lean functions, and that each call comes to what its function says. Written by a program of this session (a turned copy of the kit's print). No condition beyond those that each theorem states. -/
import Derived.Test.YtehodkkpmoidhaaPAllx0
import Derived.Test.YtehodkkpmoidhaaPAllx1
import Derived.Test.YtehodkkpmoidhaaPAllx2
import Derived.Test.YtehodkkpmoidhaaPAllx3
import Derived.Test.YtehodkkpmoidhaaPAllx4
namespace Go.Proofs.Ytehodkkpmoidhaa.PAll
open Go.RowKit Go.Proofs.YtehodkkpmoidhaaW.PrintWords Go.Proofs.YtehodkkpmoidhaaW.PrintLast Go.Proofs.YtehodkkpmoidhaaW.PrintMore
attribute [local go_sem] max2_int min2_int max_two min_two max_three min_three max_four min_four   -- for this text's walks alone
set_option linter.unusedVariables false
set_option linter.unusedSimpArgs false

end Go.Proofs.Ytehodkkpmoidhaa.PAll
