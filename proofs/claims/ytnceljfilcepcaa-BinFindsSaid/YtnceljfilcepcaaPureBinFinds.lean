/- BinFinds, the plain law. -/
import Derived.Test.YtnceljfilcepcaaPlainBinLaw
namespace Go.Proofs.Ytnceljfilcepcaa.Pure
open Go.RowKit Go.Proofs.Ytnceljfilcepcaa.PAll Go.Proofs.Ytnceljfilcepcaa.Opn Go.Proofs.Ytnceljfilcepcaa.Base Go.Proofs.Ytnceljfilcepcaa.Plain Go.Proofs.YtnceljfilcepcaaW.PrintWords Go.Proofs.YtnceljfilcepcaaW.PrintLast Go.Proofs.YtnceljfilcepcaaW.PrintMore
set_option linter.unusedVariables false
set_option linter.unusedSimpArgs false
theorem BinFinds (a0_0 : Int) (a0_1 : Int) (a0_2 : Int) (l0_3 : List Int) (a1 : Int) (w0_0 : (Lit.int .i64 a0_0).wf = true) (w0_1 : (Lit.int .i64 a0_1).wf = true) (w0_2 : (Lit.int .i64 a0_2).wf = true) (w0_3 : (SliceOk 8 (fun n => (Lit.int .i64 n).wf = true)) l0_3) (w1 : (Lit.int .i64 a1).wf = true) : ∃ k, offertorylaw11_BinFinds.f k a0_0 a0_1 a0_2 l0_3 a1 = some true := by
  have h1 := i64_of w0_0
  have h2 := i64_of w0_1
  have hl : l0_3.length ≤ 9223372036854775806 := by have := w0_3.1; omega
  refine Ev.rounds ?_
  unfold offertorylaw11_BinFinds.f
  refine Ev.bind (find_f _ _ _ _ _ hl h1 h2) (Ev.bind (refSound_f _ _ _ _ h1 h2) ?_)
  refine Ev.if_ (fun h => ?_) (fun h => ?_)
  · obtain ⟨a, b, c, d, e, f, g, h64⟩ := sound0 h
    refine Ev.bind awake_f ?_
    simp only [h, if_true]
    refine Ev.bind (refBin_f _ _ _ _ _ c h64) (Ev.some_ ?_)
    simp
  · refine Ev.bind awake_f ?_
    simp only [h, if_true, if_false]
    exact Ev.some_ rfl
end Go.Proofs.Ytnceljfilcepcaa.Pure
