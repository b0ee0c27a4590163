/- IdealSound, the plain law. -/
import Derived.Test.YtpicmnkkkgedeaaDoorPlainIdealSound
namespace Go.Proofs.YtpicmnkkkgedeaaDoor.Pure
open Go.RowKit Go.Proofs.YtpicmnkkkgedeaaDoor.PAll Go.Proofs.YtpicmnkkkgedeaaDoor.Opn Go.Proofs.YtpicmnkkkgedeaaDoor.Base Go.Proofs.YtpicmnkkkgedeaaDoor.Plain Go.Proofs.YtpicmnkkkgedeaaDoorW.PrintWords Go.Proofs.YtpicmnkkkgedeaaDoorW.PrintLast Go.Proofs.YtpicmnkkkgedeaaDoorW.PrintMore
set_option linter.unusedVariables false
set_option linter.unusedSimpArgs false
theorem IdealSound (l0_0 : List (List Int)) (l0_1 : List (List (List Int))) (a1 : Int) (a2 : Int) (w0_0 : (SliceOk 24 (SliceOk 4 (fun n => (Lit.int .u32 n).wf = true))) l0_0) (w0_1 : (SliceOk 24 (SliceOk 24 (SliceOk 4 (fun n => (Lit.int .u32 n).wf = true)))) l0_1) (w1 : (Lit.int .i64 a1).wf = true) (w2 : (Lit.int .i64 a2).wf = true) : ∃ k, offertorylaw25_IdealSound.f k l0_0 l0_1 a1 a2 = some true := by
  obtain ⟨b, h1, h2⟩ := soundP_f l0_0 l0_1 a1 a2 (by have := w0_1.1; omega)
  obtain ⟨c, h3, h4⟩ := soundL_f l0_0 l0_1 a1 a2
  refine Ev.rounds ?_
  unfold offertorylaw25_IdealSound.f
  refine Ev.bind0 (a := true) rfl (Ev.pos rfl (Ev.bind h1 (Ev.bind h3 (Ev.some_ ?_))))
  have e : b = c := Bool.eq_iff_iff.2 (h2.trans h4.symm)
  rw [e]
  exact beq_self_eq_true c
end Go.Proofs.YtpicmnkkkgedeaaDoor.Pure
