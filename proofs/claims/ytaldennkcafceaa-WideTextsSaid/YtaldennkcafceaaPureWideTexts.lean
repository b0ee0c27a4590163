/- WideTexts, the plain law. -/
import Derived.Test.YtaldennkcafceaaPlainText
namespace Go.Proofs.Ytaldennkcafceaa.Pure
open Go.RowKit Go.Proofs.Ytaldennkcafceaa.PAll Go.Proofs.Ytaldennkcafceaa.Opn Go.Proofs.Ytaldennkcafceaa.Base Go.Proofs.Ytaldennkcafceaa.Plain Go.Proofs.YtaldennkcafceaaW.PrintWords Go.Proofs.YtaldennkcafceaaW.PrintLast Go.Proofs.YtaldennkcafceaaW.PrintMore
set_option linter.unusedVariables false
set_option linter.unusedSimpArgs false
theorem awake_f : Ev (fun k => offertorylaw09_awake.f k) true := Ev.of (k := 60) (fun k => offertorylaw09_awake.mono k) (by decide +kernel)
theorem WideTexts (a0_0 : Int) (a0_1 : Int) (w0_0 : (Lit.int .u64 a0_0).wf = true) (w0_1 : (Lit.int .u64 a0_1).wf = true) : ∃ k, offertorylaw09_WideTexts.f k a0_0 a0_1 = some true := by
  have h0 := u64_of w0_0
  have h1 := u64_of w0_1
  refine Ev.rounds ?_
  unfold offertorylaw09_WideTexts.f
  have hv : 0 ≤ wv a0_0 a0_1 ∧ wv a0_0 a0_1 < 340282366920938463463374607431768211456 := by unfold wv; omega
  have ht := wText_f hv
  rw [wd_wv h0 h1] at ht
  refine Ev.bind awake_f (Ev.pos rfl (Ev.bind ht (Ev.bind0 (of_f h0 h1) (Ev.bind (rText_f hv) (Ev.some_ ?_)))))
  simp
end Go.Proofs.Ytaldennkcafceaa.Pure
