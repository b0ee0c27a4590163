/- ClampSound, the plain law. -/
import Derived.Test.YtehodkkpmoidhaaPlainClampLaw
namespace Go.Proofs.Ytehodkkpmoidhaa.Pure
open Go.RowKit Go.Proofs.Ytehodkkpmoidhaa.PAll Go.Proofs.Ytehodkkpmoidhaa.Opn Go.Proofs.Ytehodkkpmoidhaa.Base Go.Proofs.Ytehodkkpmoidhaa.Plain Go.Proofs.YtehodkkpmoidhaaW.PrintWords Go.Proofs.YtehodkkpmoidhaaW.PrintLast Go.Proofs.YtehodkkpmoidhaaW.PrintMore
set_option linter.unusedVariables false
set_option linter.unusedSimpArgs false

theorem ClampSound (a0_0 : Int) (a0_1 : Int) (a0_2 : Int) (l0_3 : List Int) (w0_0 : (Lit.int .i64 a0_0).wf = true) (w0_1 : (Lit.int .i64 a0_1).wf = true) (w0_2 : (Lit.int .i64 a0_2).wf = true) (w0_3 : (SliceOk 8 (fun n => (Lit.int .i64 n).wf = true)) l0_3) : ∃ k, offertorylaw10_ClampSound.f k a0_0 a0_1 a0_2 l0_3 = some true := by
  have h1 := i64_of w0_0
  have h2 := i64_of w0_1
  refine Ev.rounds ?_
  unfold offertorylaw10_ClampSound.f
  refine Ev.bind awake_f ?_
  simp only [if_true]
  refine Ev.bind (sound_f _ _ _ _ (by have := w0_3.1; omega) h1 h2) (Ev.bind (refSound_f _ _ _ _ h1 h2) (Ev.some_ ?_))
  simp
end Go.Proofs.Ytehodkkpmoidhaa.Pure
