/- IdealSame, the plain law. -/
import Derived.Test.YtpicmnkkkgedeaaDoorPlainIdealEq
namespace Go.Proofs.YtpicmnkkkgedeaaDoor.Pure
open Go.RowKit Go.Proofs.YtpicmnkkkgedeaaDoor.PAll Go.Proofs.YtpicmnkkkgedeaaDoor.Opn Go.Proofs.YtpicmnkkkgedeaaDoor.Base Go.Proofs.YtpicmnkkkgedeaaDoor.Plain Go.Proofs.YtpicmnkkkgedeaaDoorW.PrintWords Go.Proofs.YtpicmnkkkgedeaaDoorW.PrintLast Go.Proofs.YtpicmnkkkgedeaaDoorW.PrintMore
set_option linter.unusedVariables false
set_option linter.unusedSimpArgs false
theorem IdealSame (l0_0 : List (List Int)) (l0_1 : List (List (List Int))) (l1_0 : List (List Int)) (l1_1 : List (List (List Int))) (w0_0 : (SliceOk 24 (SliceOk 4 (fun n => (Lit.int .u32 n).wf = true))) l0_0) (w0_1 : (SliceOk 24 (SliceOk 24 (SliceOk 4 (fun n => (Lit.int .u32 n).wf = true)))) l0_1) (w1_0 : (SliceOk 24 (SliceOk 4 (fun n => (Lit.int .u32 n).wf = true))) l1_0) (w1_1 : (SliceOk 24 (SliceOk 24 (SliceOk 4 (fun n => (Lit.int .u32 n).wf = true)))) l1_1) : ∃ k, offertorylaw25_IdealSame.f k l0_0 l0_1 l1_0 l1_1 = some true := by
  have h0 := sh_of w0_0
  have h1 := sh2_of w0_1
  have hn : Sh ([] : List (List Int)) := ⟨by simp, fun i => by simp⟩
  refine Ev.rounds ?_
  unfold offertorylaw25_IdealSame.f
  refine Ev.bind0 (a := true) rfl (Ev.pos rfl (Ev.bind (alikeP_f l0_0 l0_1 l1_0 l1_1 h0 h1) (Ev.bind (alike_f l0_0 l0_1 l1_0 l1_1 h0 h1) (Ev.pos (by simp) (Ev.bind (sameP_f l0_0 [] l0_1 l1_0 [] l1_1 h0 hn h1) (Ev.bind (alike_f l0_0 l0_1 l1_0 l1_1 h0 h1) (Ev.pos (by simp) (Ev.bind (sameP_f l0_0 [] l0_1 [] l0_0 l0_1 h0 hn h1) (Ev.some_ ?_)))))))))
  cases l0_0 with
  | nil => simp
  | cons x l => simp; omega
end Go.Proofs.YtpicmnkkkgedeaaDoor.Pure
