/- StatsOf, the plain law. -/
import Derived.Test.YtdpekjffjobabaaPlainSame
import Derived.Test.YtdpekjffjobabaaPlainStats
namespace Go.Proofs.Ytdpekjffjobabaa.Pure
open Go.RowKit Go.Proofs.Ytdpekjffjobabaa.PAll Go.Proofs.Ytdpekjffjobabaa.Opn Go.Proofs.Ytdpekjffjobabaa.Base Go.Proofs.Ytdpekjffjobabaa.Plain Go.Proofs.YtdpekjffjobabaaW.PrintWords Go.Proofs.YtdpekjffjobabaaW.PrintLast Go.Proofs.YtdpekjffjobabaaW.PrintMore
set_option linter.unusedVariables false
set_option linter.unusedSimpArgs false
theorem statsOf_j0 (lo hi most : Int) (es l : List Int) (hl : es.length ≤ 9223372036854775806) (hlm : l.length ≤ 1000000) (h1 : -9223372036854775808 ≤ lo ∧ lo ≤ 9223372036854775807) (h2 : -9223372036854775808 ≤ hi ∧ hi ≤ 9223372036854775807) :
    Ev (fun k => offertorylaw13_StatsOf.j0 k l lo hi most es) true := by
  refine Ev.succ ?_
  simp only [offertorylaw13_StatsOf.j0]
  refine Ev.bind (of_f13 lo hi most es l hl hlm h1 h2) (Ev.bind (refSound_f lo hi most es h1 h2) ?_)
  by_cases h : soundE lo hi most es = 0
  · obtain ⟨a1, a2, a3, a4, a5, a6, a7, a8⟩ := sound0 h
    have hcl : (statsV lo hi es (zeros es) l l.length 0 0).1.length = es.length + 1 := by
      show (counts lo hi es (zeros es) l).length = _
      rw [counts_length, zeros_length]
    simp only [h, if_true]
    refine Ev.bind awake_f ?_
    simp only [if_true]
    refine Ev.bind (refStats_f lo hi most es l h hlm) (Ev.bind (refSame_f _ _ _ _ _ _ _ _ _ _ _ _ _ _ (by omega)) (Ev.some_ ?_))
    exact sameB_self _ _ _ _ _ _ _
  · simp only [h, if_false]
    refine Ev.bind awake_f ?_
    simp only [if_true]
    refine Ev.bind (refSame_f _ _ _ _ _ _ _ _ _ _ _ _ _ _ (by decide)) (Ev.some_ ?_)
    exact sameB_self _ _ _ _ _ _ _
theorem StatsOf (a0_0 : Int) (a0_1 : Int) (a0_2 : Int) (l0_3 : List Int) (l1 : List Int) (w0_0 : (Lit.int .i64 a0_0).wf = true) (w0_1 : (Lit.int .i64 a0_1).wf = true) (w0_2 : (Lit.int .i64 a0_2).wf = true) (w0_3 : (SliceOk 8 (fun n => (Lit.int .i64 n).wf = true)) l0_3) (ok1 : (SliceOk 8 (fun n => (Lit.int .i64 n).wf = true)) l1) : ∃ k, offertorylaw13_StatsOf.f k a0_0 a0_1 a0_2 l0_3 l1 = some true := by
  have h1 := i64_of w0_0
  have h2 := i64_of w0_1
  have hl : l0_3.length ≤ 9223372036854775806 := by have := w0_3.1; omega
  refine Ev.rounds ?_
  unfold offertorylaw13_StatsOf.f
  refine Ev.if_ (fun h => Ev.pos (by omega) ?_) (fun h => ?_)
  · exact statsOf_j0 _ _ _ _ _ hl (by rw [List.length_take]; omega) h1 h2
  · exact statsOf_j0 _ _ _ _ _ hl (by omega) h1 h2
end Go.Proofs.Ytdpekjffjobabaa.Pure
