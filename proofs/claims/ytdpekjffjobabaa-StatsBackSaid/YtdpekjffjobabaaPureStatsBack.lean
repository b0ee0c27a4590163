/- StatsBack, the plain law. -/
import Derived.Test.YtdpekjffjobabaaMergeBack
namespace Go.Proofs.Ytdpekjffjobabaa.Pure
open Go.RowKit Go.Proofs.Ytdpekjffjobabaa.PAll Go.Proofs.Ytdpekjffjobabaa.Opn Go.Proofs.Ytdpekjffjobabaa.Base Go.Proofs.Ytdpekjffjobabaa.Plain Go.Proofs.YtdpekjffjobabaaW.PrintWords Go.Proofs.YtdpekjffjobabaaW.PrintLast Go.Proofs.YtdpekjffjobabaaW.PrintMore
set_option linter.unusedVariables false
set_option linter.unusedSimpArgs false
theorem statsBack_j0 (lo hi most : Int) (es l : List Int) (b : Bool) (hs : soundE lo hi most es = 0) (hb : b = false → l.length ≤ 300) : Ev (fun k => offertorylaw13_StatsBack.j0 k l b lo hi most es) true := by
  obtain ⟨a1, a2, a3, a4, a5, a6, a7, a8⟩ := sound0 hs
  obtain ⟨n, hn⟩ := isBits_exists a3 a4
  refine Ev.succ ?_
  simp only [offertorylaw13_StatsBack.j0]
  cases b
  · have hl := hb rfl
    have hof := of_f13 lo hi most es l (by omega) (by omega) (by omega) (by omega)
    rw [if_pos hs] at hof
    have hd := decodeT_f lo hi most n es l 1 hs hn (by decide) (by omega) (by omega)
    rw [vecT_one, map_one, Int.mul_one, Int.mul_one, Int.mul_one] at hd
    have hcl : (counts lo hi es (zeros es) l).length = es.length + 1 := by rw [counts_length, zeros_length]
    have e : sameB (counts lo hi es (zeros es) l) (l.length : Int) (resS (sumC lo hi l)).1 (resS (sumC lo hi l)).2.1 (wd (sqC lo hi l)).1 (wd (sqC lo hi l)).2 (resS (sumC lo hi l)).2.2 (statsV lo hi es (zeros es) l l.length 0 0).1 (statsV lo hi es (zeros es) l l.length 0 0).2.1 (statsV lo hi es (zeros es) l l.length 0 0).2.2.1 (statsV lo hi es (zeros es) l l.length 0 0).2.2.2.1 (statsV lo hi es (zeros es) l l.length 0 0).2.2.2.2.1 (statsV lo hi es (zeros es) l l.length 0 0).2.2.2.2.2.1 (statsV lo hi es (zeros es) l l.length 0 0).2.2.2.2.2.2 = true := by
      unfold statsV
      rw [Int.zero_add, Int.zero_add]
      exact sameB_self _ _ _ _ _ _ _
    refine Ev.neg (by decide) (Ev.bind (refEncode_f lo hi most n es l hs hn (by omega) (refLen_f lo hi most n es hn a3 a4 a8)) (Ev.bind hd (Ev.bind hof (Ev.bind awake_f (Ev.pos (by first | rfl | trivial) (Ev.pos rfl (Ev.pos rfl (Ev.bind (same_f _ _ _ _ _ _ _ _ _ _ _ _ _ _ (by show (counts lo hi es (zeros es) l).length ≤ _; omega)) (Ev.pos e (Ev.bind (refSame_f _ _ _ _ _ _ _ _ _ _ _ _ _ _ (by show (counts lo hi es (zeros es) l).length ≤ _; omega)) (Ev.some_ e)))))))))))
  · exact Ev.pos (by first | rfl | trivial) (Ev.bind awake_f (Ev.now _))
theorem StatsBack (a0_0 : Int) (a0_1 : Int) (a0_2 : Int) (l0_3 : List Int) (l1 : List Int) (w0_0 : (Lit.int .i64 a0_0).wf = true) (w0_1 : (Lit.int .i64 a0_1).wf = true) (w0_2 : (Lit.int .i64 a0_2).wf = true) (w0_3 : (SliceOk 8 (fun n => (Lit.int .i64 n).wf = true)) l0_3) (ok1 : (SliceOk 8 (fun n => (Lit.int .i64 n).wf = true)) l1) : ∃ k, offertorylaw13_StatsBack.f k a0_0 a0_1 a0_2 l0_3 l1 = some true := by
  have h1 := i64_of w0_0
  have h2 := i64_of w0_1
  refine Ev.rounds ?_
  unfold offertorylaw13_StatsBack.f
  refine Ev.bind (refSound_f _ _ _ _ h1 h2) ?_
  by_cases h : soundE a0_0 a0_1 a0_2 l0_3 = 0
  · simp only [h, if_true]
    exact statsBack_j0 _ _ _ _ _ _ h (fun hb => by have := of_decide_eq_false hb; omega)
  · simp only [h, if_false]
    refine Ev.succ ?_
    simp only [offertorylaw13_StatsBack.j0]
    exact Ev.pos (by first | rfl | trivial) (Ev.bind awake_f (Ev.now _))
end Go.Proofs.Ytdpekjffjobabaa.Pure
