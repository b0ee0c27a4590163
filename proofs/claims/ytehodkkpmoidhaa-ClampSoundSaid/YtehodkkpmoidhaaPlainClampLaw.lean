/- Layer 10: the four laws' common part: the fixed fact. -/
import Derived.Test.YtehodkkpmoidhaaPlainBits
namespace Go.Proofs.Ytehodkkpmoidhaa.Plain
open Go.RowKit Go.Proofs.Ytehodkkpmoidhaa.PAll Go.Proofs.Ytehodkkpmoidhaa.Opn Go.Proofs.Ytehodkkpmoidhaa.Base Go.Proofs.YtehodkkpmoidhaaW.PrintWords Go.Proofs.YtehodkkpmoidhaaW.PrintLast Go.Proofs.YtehodkkpmoidhaaW.PrintMore
set_option linter.unusedVariables false
set_option linter.unusedSimpArgs false
theorem awake_f : Ev (fun k => offertorylaw10_awake.f k) true := Ev.of (k := 12) (fun k => offertorylaw10_awake.mono k) (by decide +kernel)
end Go.Proofs.Ytehodkkpmoidhaa.Plain
