/- BellPlays, the plain law. -/
import Derived.Test.YtjmfhlapjghipaaPAllx6

import Derived.Test.YtjmfhlapjghipaaBase
namespace Go.Proofs.Ytjmfhlapjghipaa.Pure
open Go.RowKit Go.Proofs.Ytjmfhlapjghipaa.PAll Go.Proofs.Ytjmfhlapjghipaa.Opn Go.Proofs.Ytjmfhlapjghipaa.Base
set_option linter.unusedVariables false
theorem BellPlays (l0 : List S28) (ok0 : (SliceOk 24 (fun b : S28 => (fun v => (fun n => (Lit.int .i64 n).wf = true) v.1 ∧ (fun v => (fun n => (Lit.int .i64 n).wf = true) v.1 ∧ (fun n => (Lit.int .i64 n).wf = true) v.2) v.2) ((b.f0, (b.f1, b.f2))))) l0) : offertorylaw19_BellPlays.f l0 = some true := by
  have h1 := ok0.1
  unfold offertorylaw19_BellPlays.f
  rw [if_pos (by omega)]
end Go.Proofs.Ytjmfhlapjghipaa.Pure
