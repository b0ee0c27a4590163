/- The Go functions that the laws reach, as Lean functions, and that each call comes to what its function says. Written by a program of this session (a turned copy of the kit's print). No condition beyond those that each theorem states. -/
import Derived.Test.YthbiijhjcoakfaaPAllx0
import Derived.Test.YthbiijhjcoakfaaPAllx1
import Derived.Test.YthbiijhjcoakfaaPAllx2
import Derived.Test.YthbiijhjcoakfaaPAllx3
import Derived.Test.YthbiijhjcoakfaaPAllx4
import Derived.Test.YthbiijhjcoakfaaPAllx5
import Derived.Test.YthbiijhjcoakfaaPAllx6
import Derived.Test.YthbiijhjcoakfaaPAllx7
import Derived.Test.YthbiijhjcoakfaaPAllx8
import Derived.Test.YthbiijhjcoakfaaPAllx9
import Derived.Test.YthbiijhjcoakfaaPAllx10
import Derived.Test.YthbiijhjcoakfaaPAllx11
import Derived.Test.YthbiijhjcoakfaaPAllx12
namespace Go.Proofs.Ythbiijhjcoakfaa.PAll
open Go.RowKit Go.Proofs.YthbiijhjcoakfaaW.PrintWords Go.Proofs.YthbiijhjcoakfaaW.PrintLast Go.Proofs.YthbiijhjcoakfaaW.PrintMore
attribute [local go_sem] max2_int min2_int max_two min_two max_three min_three max_four min_four   -- for this text's walks alone
set_option linter.unusedVariables false
set_option linter.unusedSimpArgs false

end Go.Proofs.Ythbiijhjcoakfaa.PAll
