/- The reference's product, in whole numbers. -/
import Derived.Test.YtdpekjffjobabaaPlainBig
namespace Go.Proofs.Ytdpekjffjobabaa.Plain
open Go.RowKit Go.Proofs.Ytdpekjffjobabaa.PAll Go.Proofs.Ytdpekjffjobabaa.Opn Go.Proofs.Ytdpekjffjobabaa.Base Go.Proofs.YtdpekjffjobabaaW.PrintWords Go.Proofs.YtdpekjffjobabaaW.PrintLast Go.Proofs.YtdpekjffjobabaaW.PrintMore
set_option linter.unusedVariables false
set_option linter.unusedSimpArgs false
theorem bigMul_f (u v : Int) : offertoryref09_Mul.f (bigD u 0) (bigD u 1) (bigD u 2) (bigD u 3) (bigD u 4) (bigD u 5) (bigD u 6) (bigD u 7) (bigD v 0) (bigD v 1) (bigD v 2) (bigD v 3) (bigD v 4) (bigD v 5) (bigD v 6) (bigD v 7) = some (digs (u * v)) := by
  unfold offertoryref09_Mul.f
  rw [if_pos ⟨dig_digs u, dig_digs v⟩, bV_digs, bV_digs]
  congr 1
  exact digs_eq (mod_mul u v _)
end Go.Proofs.Ytdpekjffjobabaa.Plain
