/- RingOrder, the plain law. -/
import Derived.Test.YthlbolibaheclaaPlainRingSum
namespace Go.Proofs.Ythlbolibaheclaa.Pure
open Go.RowKit Go.Proofs.Ythlbolibaheclaa.PAll Go.Proofs.Ythlbolibaheclaa.Opn Go.Proofs.Ythlbolibaheclaa.Base Go.Proofs.Ythlbolibaheclaa.Plain Go.Proofs.YthlbolibaheclaaW.PrintWords Go.Proofs.YthlbolibaheclaaW.PrintLast Go.Proofs.YthlbolibaheclaaW.PrintMore
set_option linter.unusedVariables false
set_option linter.unusedSimpArgs false
theorem RingOrder (l0 : List Int) (l1 : List Int) (l2 : List Int) (ok0 : (SliceOk 4 (fun n => (Lit.int .u32 n).wf = true)) l0) (ok1 : (SliceOk 4 (fun n => (Lit.int .u32 n).wf = true)) l1) (ok2 : (SliceOk 4 (fun n => (Lit.int .u32 n).wf = true)) l2) : ∃ k, offertorylaw02_RingOrder.f k l0 l1 l2 = some true := by
  have n0 := len_of ok0
  refine Ev.rounds ?_
  unfold offertorylaw02_RingOrder.f
  have no : ¬ l1.length = l0.length ∨ ¬ l2.length = l0.length → Ev (fun k => ring_Sum.f k (l0.length : Int) [l0, l1, l2]) ([], 1) ∧ Ev (fun k => ring_Sum.f k (l0.length : Int) [l2, l0, l1]) ([], 1) := by
    rintro (h | h)
    · exact ⟨sum_no _ _ (by simp) 1 (by simp) (by simp only [List.getD_cons_succ, List.getD_cons_zero]; omega), sum_no _ _ (by simp) 2 (by simp) (by simp only [List.getD_cons_succ, List.getD_cons_zero]; omega)⟩
    · exact ⟨sum_no _ _ (by simp) 2 (by simp) (by simp only [List.getD_cons_succ, List.getD_cons_zero]; omega), sum_no _ _ (by simp) 0 (by simp) (by simp only [List.getD_cons_zero]; omega)⟩
  have tail : ∀ bt : List Int × Int, Ev (fun k => offertorylaw02_RingOrder.j0 k l2 [] 1 [] 1 bt.1 true) true := fun bt => by
    refine Ev.succ ?_
    simp only [offertorylaw02_RingOrder.j0, if_true]
    exact Ev.bind0 rfl (Ev.some_ rfl)
  by_cases h1 : l1.length = l0.length
  · by_cases h2 : l2.length = l0.length
    · have s1 := sum_f [l0, l1, l2] l0.length (by omega) (by simp) (fun j hj => by
        match j, hj with
        | 0, _ => rfl
        | 1, _ => exact h1
        | 2, _ => exact h2)
      have s2 := sum_f [l2, l0, l1] l0.length (by omega) (by simp) (fun j hj => by
        match j, hj with
        | 0, _ => exact h2
        | 1, _ => rfl
        | 2, _ => exact h1)
      have hal : (addL l0 l1).length = l0.length := addL_length (by omega)
      refine Ev.bind s1 (Ev.bind s2 (Ev.bind (add_f l0 l1 (by omega) (by omega)) ?_))
      refine Ev.pos rfl (Ev.succ ?_)
      simp only [offertorylaw02_RingOrder.j0, bne_self_eq_false]
      refine Ev.neg (by decide) (Ev.bind (add_f (addL l0 l1) l2 (by omega) (by omega)) (Ev.bind0 rfl (Ev.pos (by first | rfl | trivial) (Ev.pos (by first | rfl | trivial) (Ev.pos (by first | rfl | trivial) ?_)))))
      refine Ev.bind (cells_f _ _ ?_ (by rw [sumL_length]; omega)) (Ev.pos (by first | rfl | trivial) (Ev.bind (cells_f _ _ ?_ (by rw [sumL_length]; omega)) (Ev.some_ rfl)))
      · refine ext_getD (by rw [sumL_length, sumL_length]) (fun j hj => ?_)
        rw [sumL_length] at hj
        rw [sumL_get _ _ j hj, sumL_get _ _ j hj]
        simp only [colS, List.foldl_cons, List.foldl_nil, stepC]
        omega
      · refine ext_getD (by rw [sumL_length, addL_length (by omega)]; omega) (fun j hj => ?_)
        rw [sumL_length] at hj
        rw [sumL_get _ _ j hj, addL_get (by omega) j (by omega), addL_get (by omega) j hj]
        simp only [colS, List.foldl_cons, List.foldl_nil, stepC]
        omega
    · obtain ⟨s1, s2⟩ := no (Or.inr h2)
      refine Ev.bind s1 (Ev.bind s2 (Ev.bind (add_f l0 l1 (by omega) (by omega)) ?_))
      exact Ev.neg (by decide) (tail (addL l0 l1, 0))
  · obtain ⟨s1, s2⟩ := no (Or.inl h1)
    refine Ev.bind s1 (Ev.bind s2 (Ev.bind (add_no l0 l1 (by omega)) ?_))
    exact Ev.neg (by decide) (tail ([], 1))
end Go.Proofs.Ythlbolibaheclaa.Pure
