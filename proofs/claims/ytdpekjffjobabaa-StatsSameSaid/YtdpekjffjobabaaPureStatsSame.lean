/- StatsSame, the plain law. -/
import Derived.Test.YtdpekjffjobabaaPlainSame
namespace Go.Proofs.Ytdpekjffjobabaa.Pure
open Go.RowKit Go.Proofs.Ytdpekjffjobabaa.PAll Go.Proofs.Ytdpekjffjobabaa.Opn Go.Proofs.Ytdpekjffjobabaa.Base Go.Proofs.Ytdpekjffjobabaa.Plain Go.Proofs.YtdpekjffjobabaaW.PrintWords Go.Proofs.YtdpekjffjobabaaW.PrintLast Go.Proofs.YtdpekjffjobabaaW.PrintMore
set_option linter.unusedVariables false
set_option linter.unusedSimpArgs false
theorem StatsSame (l0_0 : List Int) (a0_1 : Int) (a0_2 : Int) (a0_3 : Int) (a0_4 : Int) (a0_5 : Int) (a0_6 : Bool) (l1_0 : List Int) (a1_1 : Int) (a1_2 : Int) (a1_3 : Int) (a1_4 : Int) (a1_5 : Int) (a1_6 : Bool) (w0_0 : (SliceOk 8 (fun n => (Lit.int .i64 n).wf = true)) l0_0) (w0_1 : (Lit.int .i64 a0_1).wf = true) (w0_2 : (Lit.int .u64 a0_2).wf = true) (w0_3 : (Lit.int .u64 a0_3).wf = true) (w0_4 : (Lit.int .u64 a0_4).wf = true) (w0_5 : (Lit.int .u64 a0_5).wf = true) (w1_0 : (SliceOk 8 (fun n => (Lit.int .i64 n).wf = true)) l1_0) (w1_1 : (Lit.int .i64 a1_1).wf = true) (w1_2 : (Lit.int .u64 a1_2).wf = true) (w1_3 : (Lit.int .u64 a1_3).wf = true) (w1_4 : (Lit.int .u64 a1_4).wf = true) (w1_5 : (Lit.int .u64 a1_5).wf = true) : ∃ k, offertorylaw13_StatsSame.f k l0_0 a0_1 a0_2 a0_3 a0_4 a0_5 a0_6 l1_0 a1_1 a1_2 a1_3 a1_4 a1_5 a1_6 = some true := by
  refine Ev.rounds ?_
  unfold offertorylaw13_StatsSame.f
  refine Ev.bind awake_f (Ev.pos (by first | rfl | trivial) (Ev.bind (same_f _ _ _ _ _ _ _ _ _ _ _ _ _ _ (by have := w0_0.1; omega)) (Ev.bind (refSame_f _ _ _ _ _ _ _ _ _ _ _ _ _ _ (by have := w0_0.1; omega)) (Ev.some_ ?_))))
  simp
end Go.Proofs.Ytdpekjffjobabaa.Pure
