/- ClampKeeps, the plain law. -/
import Derived.Test.YtehodkkpmoidhaaPlainClampLaw
namespace Go.Proofs.Ytehodkkpmoidhaa.Pure
open Go.RowKit Go.Proofs.Ytehodkkpmoidhaa.PAll Go.Proofs.Ytehodkkpmoidhaa.Opn Go.Proofs.Ytehodkkpmoidhaa.Base Go.Proofs.Ytehodkkpmoidhaa.Plain Go.Proofs.YtehodkkpmoidhaaW.PrintWords Go.Proofs.YtehodkkpmoidhaaW.PrintLast Go.Proofs.YtehodkkpmoidhaaW.PrintMore
set_option linter.unusedVariables false
set_option linter.unusedSimpArgs false

theorem ClampKeeps (a0_0 : Int) (a0_1 : Int) (a0_2 : Int) (l0_3 : List Int) (a1 : Int) (w0_0 : (Lit.int .i64 a0_0).wf = true) (w0_1 : (Lit.int .i64 a0_1).wf = true) (w0_2 : (Lit.int .i64 a0_2).wf = true) (w0_3 : (SliceOk 8 (fun n => (Lit.int .i64 n).wf = true)) l0_3) (w1 : (Lit.int .i64 a1).wf = true) : ∃ k, offertorylaw10_ClampKeeps.f k a0_0 a0_1 a0_2 l0_3 a1 = some true := by
  have h1 := i64_of w0_0
  have h2 := i64_of w0_1
  have hl : l0_3.length ≤ 9223372036854775806 := by have := w0_3.1; omega
  refine Ev.rounds ?_
  unfold offertorylaw10_ClampKeeps.f
  refine Ev.bind (clamp_f _ _ _ _ _ hl h1 h2) (Ev.bind (place_f _ _ _ _ _ hl h1 h2) (Ev.bind (refSound_f _ _ _ _ h1 h2) ?_))
  refine Ev.if_ (fun h => ?_) (fun h => ?_)
  · obtain ⟨a, b, c, d, _⟩ := sound0 h
    have hc := clampV_in c a1
    refine Ev.bind awake_f ?_
    simp only [h, if_true]
    have hr : offertoryref09_Clamp.f a0_0 a0_1 a0_2 l0_3 a1 = some (clampV a0_0 a0_1 a1) := by
      rw [clampV_eq c]; unfold offertoryref09_Clamp.f
      split <;> (try split) <;> rfl
    refine Ev.bind0 hr ?_
    simp only [if_true]
    refine Ev.some_ ?_
    rw [w64 (by omega), wu64 (by omega)]
    simp
  · refine Ev.bind awake_f ?_
    simp only [h, if_true, if_false]
    exact Ev.some_ rfl
end Go.Proofs.Ytehodkkpmoidhaa.Pure
