/- WideProducts, the plain law. -/
import Derived.Test.YtaldennkcafceaaPlainWideLaw
import Derived.Test.YtaldennkcafceaaPlainBigMul
namespace Go.Proofs.Ytaldennkcafceaa.Pure
open Go.RowKit Go.Proofs.Ytaldennkcafceaa.PAll Go.Proofs.Ytaldennkcafceaa.Opn Go.Proofs.Ytaldennkcafceaa.Base Go.Proofs.Ytaldennkcafceaa.Plain Go.Proofs.YtaldennkcafceaaW.PrintWords Go.Proofs.YtaldennkcafceaaW.PrintLast Go.Proofs.YtaldennkcafceaaW.PrintMore
set_option linter.unusedVariables false
set_option linter.unusedSimpArgs false
theorem WideProducts (a0 : Int) (a1 : Int) (w0 : (Lit.int .u64 a0).wf = true) (w1 : (Lit.int .u64 a1).wf = true) : ∃ k, offertorylaw09_WideProducts.f k a0 a1 = some true := by
  have h0 : W64 a0 := u64_of w0
  have h1 : W64 a1 := u64_of w1
  have z : W64 0 := by unfold W64; omega
  refine Ev.rounds ?_
  unfold offertorylaw09_WideProducts.f
  refine Ev.bind awake_f ?_
  simp only [if_true]
  refine Ev.bind0 (wMul_f h0 h1) (Ev.bind0 (of_f z h0) (Ev.bind0 (of_f z h1) ?_))
  simp only [digs]
  refine Ev.bind0 (bigMul_f _ _) ?_
  simp only [digs]
  refine Ev.bind0 (bigWide_f _) (Ev.some_ ?_)
  rw [show wv 0 a0 = a0 by unfold wv; omega, show wv 0 a1 = a1 by unfold wv; omega]
  simp
end Go.Proofs.Ytaldennkcafceaa.Pure
