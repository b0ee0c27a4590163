/- The reference's turn, in whole numbers. -/
import Derived.Test.YtdpekjffjobabaaPlainBig
namespace Go.Proofs.Ytdpekjffjobabaa.Plain
open Go.RowKit Go.Proofs.Ytdpekjffjobabaa.PAll Go.Proofs.Ytdpekjffjobabaa.Opn Go.Proofs.Ytdpekjffjobabaa.Base Go.Proofs.YtdpekjffjobabaaW.PrintWords Go.Proofs.YtdpekjffjobabaaW.PrintLast Go.Proofs.YtdpekjffjobabaaW.PrintMore
set_option linter.unusedVariables false
set_option linter.unusedSimpArgs false
theorem bigNeg_f (v : Int) : offertoryref09_Neg.f (bigD v 0) (bigD v 1) (bigD v 2) (bigD v 3) (bigD v 4) (bigD v 5) (bigD v 6) (bigD v 7) = some (digs (-v)) := by
  unfold offertoryref09_Neg.f
  rw [if_pos (dig_digs v), bV_digs]
  congr 1
  exact digs_eq (by omega)
end Go.Proofs.Ytdpekjffjobabaa.Plain
