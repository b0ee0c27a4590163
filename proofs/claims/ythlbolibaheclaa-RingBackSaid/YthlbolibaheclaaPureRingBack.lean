/- RingBack, the plain law. -/
import Derived.Test.YthlbolibaheclaaPlainRing
namespace Go.Proofs.Ythlbolibaheclaa.Pure
open Go.RowKit Go.Proofs.Ythlbolibaheclaa.PAll Go.Proofs.Ythlbolibaheclaa.Opn Go.Proofs.Ythlbolibaheclaa.Base Go.Proofs.Ythlbolibaheclaa.Plain Go.Proofs.YthlbolibaheclaaW.PrintWords Go.Proofs.YthlbolibaheclaaW.PrintLast Go.Proofs.YthlbolibaheclaaW.PrintMore
set_option linter.unusedVariables false
set_option linter.unusedSimpArgs false
theorem back_l0 (a b z : List Int) (hz : z.length = a.length) (hn : a.length ≤ 35184372088831) (ha : Small a) (hb : Small b) (h0 : ∀ j, j < z.length → z.getD j 0 = 0) : ∀ (d i : Nat), z.length - i = d → i ≤ z.length → Ev (fun k => offertorylaw02_RingBack.l0 k a b z (i : Int)) true
  | d, i, hd, hi => by
    refine Ev.succ ?_
    simp only [offertorylaw02_RingBack.l0, rd_nat]
    by_cases h : i < z.length
    · refine Ev.pos (by omega) (Ev.pos (by omega) (Ev.pos (h0 i h) ?_))
      rw [w64 (by omega)]
      exact back_l0 a b z hz hn ha hb h0 (d - 1) (i + 1) (by omega) (by omega)
    · refine Ev.neg (by omega) ?_
      by_cases hl : a.length = b.length
      · have hs := addL_length hl
        refine Ev.bind (add_f a b hl hn) (Ev.bind (sub_f (addL a b) b (by omega) (by omega)) ?_)
        refine Ev.pos rfl (Ev.pos rfl (Ev.bind (cells_f (subL (addL a b) b) a ?_ (by rw [subL_length (by omega)]; omega)) (Ev.some_ rfl)))
        refine ext_getD (by rw [subL_length (by omega)]; omega) (fun j hj => ?_)
        rw [subL_length (by omega)] at hj
        rw [subL_get (by omega) j hj, addL_get hl j (by omega)]
        have h1 := ha j
        omega
      · refine Ev.bind (add_no a b hl) ?_
        by_cases h2 : ([] : List Int).length = b.length
        · exact Ev.bind (sub_f [] b h2 (by simp)) (Ev.neg (by decide) (Ev.some_ rfl))
        · exact Ev.bind (sub_no [] b h2) (Ev.neg (by decide) (Ev.some_ rfl))
  termination_by d _ => d
  decreasing_by all_goals omega
theorem RingBack (l0 : List Int) (l1 : List Int) (ok0 : (SliceOk 4 (fun n => (Lit.int .u32 n).wf = true)) l0) (ok1 : (SliceOk 4 (fun n => (Lit.int .u32 n).wf = true)) l1) : ∃ k, offertorylaw02_RingBack.f k l0 l1 = some true := by
  have n0 := len_of ok0
  have s0 := small_of ok0
  have hnl := negL_length l0
  have hal : (addL l0 (negL l0)).length = l0.length := addL_length (by omega)
  refine Ev.rounds ?_
  unfold offertorylaw02_RingBack.f
  refine Ev.bind (neg_f l0 (by omega)) (Ev.bind (add_f l0 (negL l0) (by omega) (by omega)) (Ev.bind0 rfl ?_))
  refine Ev.pos rfl (Ev.pos rfl (Ev.pos (by rw [hal]) ?_))
  refine Ev.bind (neg_f (negL l0) (by omega)) (Ev.bind (cells_f (negL (negL l0)) l0 ?_ (by rw [negL_length]; omega)) ?_)
  · refine ext_getD (by rw [negL_length]; omega) (fun j hj => ?_)
    rw [negL_length] at hj
    rw [negL_get _ j hj, negL_get _ j (by omega)]
    have h1 := s0 j
    omega
  · refine Ev.succ ?_
    simp only [offertorylaw02_RingBack.j0, Bool.not_true]
    refine Ev.neg (by decide) ?_
    refine back_l0 l0 l1 _ hal (by omega) s0 (small_of ok1) (fun j hj => ?_) _ 0 rfl (Nat.zero_le _)
    rw [addL_get (by omega) j (by omega), negL_get _ j (by omega)]
    have h1 := s0 j
    omega
end Go.Proofs.Ythlbolibaheclaa.Pure
