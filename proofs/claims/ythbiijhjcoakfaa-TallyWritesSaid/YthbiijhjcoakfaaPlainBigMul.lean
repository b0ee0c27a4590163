/- The reference's product, in whole numbers. -/
import Derived.Test.YthbiijhjcoakfaaPlainBig
namespace Go.Proofs.Ythbiijhjcoakfaa.Plain
open Go.RowKit Go.Proofs.Ythbiijhjcoakfaa.PAll Go.Proofs.Ythbiijhjcoakfaa.Opn Go.Proofs.Ythbiijhjcoakfaa.Base Go.Proofs.YthbiijhjcoakfaaW.PrintWords Go.Proofs.YthbiijhjcoakfaaW.PrintLast Go.Proofs.YthbiijhjcoakfaaW.PrintMore
set_option linter.unusedVariables false
set_option linter.unusedSimpArgs false
theorem bigMul_f (u v : Int) : offertoryref09_Mul.f (bigD u 0) (bigD u 1) (bigD u 2) (bigD u 3) (bigD u 4) (bigD u 5) (bigD u 6) (bigD u 7) (bigD v 0) (bigD v 1) (bigD v 2) (bigD v 3) (bigD v 4) (bigD v 5) (bigD v 6) (bigD v 7) = some (digs (u * v)) := by
  unfold offertoryref09_Mul.f
  rw [if_pos ⟨dig_digs u, dig_digs v⟩, bV_digs, bV_digs]
  congr 1
  exact digs_eq (mod_mul u v _)
end Go.Proofs.Ythbiijhjcoakfaa.Plain
