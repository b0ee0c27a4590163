/- BellMoves, the plain law. -/
import Derived.Test.YtjmfhlapjghipaaPAllx4

import Derived.Test.YtjmfhlapjghipaaBase
namespace Go.Proofs.Ytjmfhlapjghipaa.Pure
open Go.RowKit Go.Proofs.Ytjmfhlapjghipaa.PAll Go.Proofs.Ytjmfhlapjghipaa.Opn Go.Proofs.Ytjmfhlapjghipaa.Base
set_option linter.unusedVariables false
theorem BellMoves (a0 : Int) (a1 : Int) (a2 : Int) (a3 : Bool) (w0 : (Lit.int .u16 a0).wf = true) (w1 : (Lit.int .u16 a1).wf = true) (w2 : (Lit.int .u16 a2).wf = true) : offertorylaw19_BellMoves.f a0 a1 a2 a3 = some true := by
  have h0 := u16_of w0
  have h1 := u16_of w1
  have h2 := u16_of w2
  unfold offertorylaw19_BellMoves.f
  rw [if_pos ⟨h0, h1, h2⟩]
end Go.Proofs.Ytjmfhlapjghipaa.Pure
