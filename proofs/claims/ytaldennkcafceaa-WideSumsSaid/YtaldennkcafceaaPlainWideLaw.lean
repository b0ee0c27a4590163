/- Layer 9: the laws' common part: the fixed fact. -/
import Derived.Test.YtaldennkcafceaaPlainShift
namespace Go.Proofs.Ytaldennkcafceaa.Plain
open Go.RowKit Go.Proofs.Ytaldennkcafceaa.PAll Go.Proofs.Ytaldennkcafceaa.Opn Go.Proofs.Ytaldennkcafceaa.Base Go.Proofs.YtaldennkcafceaaW.PrintWords Go.Proofs.YtaldennkcafceaaW.PrintLast Go.Proofs.YtaldennkcafceaaW.PrintMore
set_option linter.unusedVariables false
set_option linter.unusedSimpArgs false
set_option maxRecDepth 100000 in
theorem awake_f : Ev (fun k => offertorylaw09_awake.f k) true := Ev.of (k := 60) (fun k => offertorylaw09_awake.mono k) (by decide +kernel)
end Go.Proofs.Ytaldennkcafceaa.Plain
