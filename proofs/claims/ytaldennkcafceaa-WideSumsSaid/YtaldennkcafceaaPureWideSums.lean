/- WideSums, the plain law. -/
import Derived.Test.YtaldennkcafceaaPlainWideLaw
import Derived.Test.YtaldennkcafceaaPlainBigNeg
import Derived.Test.YtaldennkcafceaaPAllx8
namespace Go.Proofs.Ytaldennkcafceaa.Pure
open Go.RowKit Go.Proofs.Ytaldennkcafceaa.PAll Go.Proofs.Ytaldennkcafceaa.Opn Go.Proofs.Ytaldennkcafceaa.Base Go.Proofs.Ytaldennkcafceaa.Plain Go.Proofs.YtaldennkcafceaaW.PrintWords Go.Proofs.YtaldennkcafceaaW.PrintLast Go.Proofs.YtaldennkcafceaaW.PrintMore
set_option linter.unusedVariables false
set_option linter.unusedSimpArgs false
theorem WideSums (a0_0 : Int) (a0_1 : Int) (a1_0 : Int) (a1_1 : Int) (w0_0 : (Lit.int .u64 a0_0).wf = true) (w0_1 : (Lit.int .u64 a0_1).wf = true) (w1_0 : (Lit.int .u64 a1_0).wf = true) (w1_1 : (Lit.int .u64 a1_1).wf = true) : ∃ k, offertorylaw09_WideSums.f k a0_0 a0_1 a1_0 a1_1 = some true := by
  have h0 : W64 a0_0 := u64_of w0_0
  have h1 : W64 a0_1 := u64_of w0_1
  have h2 : W64 a1_0 := u64_of w1_0
  have h3 : W64 a1_1 := u64_of w1_1
  refine Ev.rounds ?_
  unfold offertorylaw09_WideSums.f
  refine Ev.bind0 (of_f h0 h1) (Ev.bind0 (of_f h2 h3) (Ev.bind awake_f ?_))
  simp only [if_true, digs]
  refine Ev.bind0 (wAdd_f h0 h1 h2 h3) (Ev.bind0 (bigAdd_f _ _) ?_)
  simp only [digs]
  refine Ev.bind0 (bigWide_f _) (Ev.pos (by simp) ?_)
  refine Ev.bind0 (wSub_f h0 h1 h2 h3) (Ev.bind0 (bigNeg_f _) ?_)
  simp only [digs]
  refine Ev.bind0 (bigAdd_f _ _) ?_
  simp only [digs]
  refine Ev.bind0 (bigWide_f _) (Ev.pos (by rw [Int.sub_eq_add_neg]; simp) ?_)
  refine Ev.bind0 (wNeg_f h0 h1) (Ev.bind0 (bigNeg_f _) ?_)
  simp only [digs]
  refine Ev.bind0 (bigWide_f _) (Ev.some_ ?_)
  simp
end Go.Proofs.Ytaldennkcafceaa.Pure
