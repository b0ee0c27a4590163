/- The Go functions that the laws reach, as Lean functions, and that each call comes to what its function says. Written by a program of this session (a turned copy of the kit's print). No condition beyond those that each theorem states. -/
import Derived.Test.YtnceljfilcepcaaPAllx0
import Derived.Test.YtnceljfilcepcaaPAllx1
import Derived.Test.YtnceljfilcepcaaPAllx2
import Derived.Test.YtnceljfilcepcaaPAllx3
import Derived.Test.YtnceljfilcepcaaPAllx4
import Derived.Test.YtnceljfilcepcaaPAllx5
import Derived.Test.YtnceljfilcepcaaPAllx6
import Derived.Test.YtnceljfilcepcaaPAllx7
import Derived.Test.YtnceljfilcepcaaPAllx8
namespace Go.Proofs.Ytnceljfilcepcaa.PAll
open Go.RowKit Go.Proofs.YtnceljfilcepcaaW.PrintWords Go.Proofs.YtnceljfilcepcaaW.PrintLast Go.Proofs.YtnceljfilcepcaaW.PrintMore
attribute [local go_sem] max2_int min2_int max_two min_two max_three min_three max_four min_four   -- for this text's walks alone
set_option linter.unusedVariables false
set_option linter.unusedSimpArgs false

end Go.Proofs.Ytnceljfilcepcaa.PAll
