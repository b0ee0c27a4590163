/- BellNone, the plain law. -/
import Derived.Test.YtjmfhlapjghipaaPAllx4

import Derived.Test.YtjmfhlapjghipaaOpen
namespace Go.Proofs.Ytjmfhlapjghipaa.Pure
open Go.RowKit Go.Proofs.Ytjmfhlapjghipaa.PAll Go.Proofs.Ytjmfhlapjghipaa.Opn
set_option linter.unusedVariables false
theorem BellNone (a0 : Int) (a1 : Int) (w0 : (Lit.int .i64 a0).wf = true) (w1 : (Lit.int .i64 a1).wf = true) : offertorylaw19_BellNone.f a0 a1 = some true := rfl
end Go.Proofs.Ytjmfhlapjghipaa.Pure
