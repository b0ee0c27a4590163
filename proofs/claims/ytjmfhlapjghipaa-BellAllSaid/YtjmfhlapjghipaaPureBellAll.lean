/- BellAll, the plain law. -/
import Derived.Test.YtjmfhlapjghipaaPAllx5

import Derived.Test.YtjmfhlapjghipaaBase
namespace Go.Proofs.Ytjmfhlapjghipaa.Pure
open Go.RowKit Go.Proofs.Ytjmfhlapjghipaa.PAll Go.Proofs.Ytjmfhlapjghipaa.Opn Go.Proofs.Ytjmfhlapjghipaa.Base
set_option linter.unusedVariables false
theorem BellAll (l0 : List Int) (ok0 : (SliceOk 2 (fun n => (Lit.int .u16 n).wf = true)) l0) : offertorylaw19_BellAll.f l0 = some true := by
  have h1 := ok0.1
  have h2 : (l0.all fun x => decide (0 ≤ x) && decide (x ≤ 65535)) = true := List.all_eq_true.2 fun x hx => by
    have := u16_of (ok0.2.2 x hx)
    rw [Bool.and_eq_true, decide_eq_true_eq, decide_eq_true_eq]
    exact this
  unfold offertorylaw19_BellAll.f
  rw [if_pos ⟨h2, by omega⟩]
end Go.Proofs.Ytjmfhlapjghipaa.Pure
