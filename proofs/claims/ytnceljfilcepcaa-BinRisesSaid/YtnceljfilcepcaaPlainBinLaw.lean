/- Layer 11: the laws' common part: the fixed fact. -/
import Derived.Test.YtnceljfilcepcaaPlainBin
namespace Go.Proofs.Ytnceljfilcepcaa.Plain
open Go.RowKit Go.Proofs.Ytnceljfilcepcaa.PAll Go.Proofs.Ytnceljfilcepcaa.Opn Go.Proofs.Ytnceljfilcepcaa.Base Go.Proofs.YtnceljfilcepcaaW.PrintWords Go.Proofs.YtnceljfilcepcaaW.PrintLast Go.Proofs.YtnceljfilcepcaaW.PrintMore
set_option linter.unusedVariables false
set_option linter.unusedSimpArgs false
theorem awake_f : Ev (fun k => offertorylaw11_awake.f k) true := Ev.of (k := 12) (fun k => offertorylaw11_awake.mono k) (by decide +kernel)
end Go.Proofs.Ytnceljfilcepcaa.Plain
