/- RingSums, the plain law. -/
import Derived.Test.YthlbolibaheclaaPlainRing
namespace Go.Proofs.Ythlbolibaheclaa.Pure
open Go.RowKit Go.Proofs.Ythlbolibaheclaa.PAll Go.Proofs.Ythlbolibaheclaa.Opn Go.Proofs.Ythlbolibaheclaa.Base Go.Proofs.Ythlbolibaheclaa.Plain Go.Proofs.YthlbolibaheclaaW.PrintWords Go.Proofs.YthlbolibaheclaaW.PrintLast Go.Proofs.YthlbolibaheclaaW.PrintMore
set_option linter.unusedVariables false
set_option linter.unusedSimpArgs false
theorem sums_l0 (a b : List Int) (hl : a.length = b.length) (hn : a.length ≤ 35184372088831) (ha : Small a) (hb : Small b) : ∀ (d i : Nat), a.length - i = d → i ≤ a.length → Ev (fun k => offertorylaw02_RingSums.l0 k a b (addL a b) (subL a b) (i : Int)) true
  | d, i, hd, hi => by
    refine Ev.succ ?_
    simp only [offertorylaw02_RingSums.l0, rd_nat]
    by_cases h : i < a.length
    · have h1 := ha i
      have h2 := hb i
      have e1 := addL_get hl i h
      have e2 := subL_get hl i h
      have l1 := addL_length hl
      have l2 := subL_length hl
      refine Ev.pos (by omega) (Ev.pos (by omega) (Ev.pos (by omega) (Ev.pos (by omega) (Ev.pos ?_ (Ev.pos (by omega) (Ev.pos ?_ ?_))))))
      · generalize (addL a b).getD i 0 = s at *
        generalize a.getD i 0 = x at *
        generalize b.getD i 0 = y at *
        rw [wu64 (x := s) (by omega), wu64 (x := x) (by omega), wu64 (x := y) (by omega), wu64 (by omega), Int.tmod_eq_emod_of_nonneg (by omega)]
        exact e1
      · generalize (subL a b).getD i 0 = t at *
        generalize a.getD i 0 = x at *
        generalize b.getD i 0 = y at *
        rw [wu64 (x := t) (by omega), wu64 (x := x) (by omega), wu64 (x := y) (by omega), wu64 (x := x + 4294967296) (by omega), wu64 (by omega), Int.tmod_eq_emod_of_nonneg (by omega)]
        omega
      · rw [w64 (by omega)]
        exact sums_l0 a b hl hn ha hb (d - 1) (i + 1) (by omega) (by omega)
    · exact Ev.neg (by omega) (Ev.bind0 rfl (Ev.some_ rfl))
  termination_by d _ => d
  decreasing_by all_goals omega
theorem RingSums (l0 : List Int) (l1 : List Int) (ok0 : (SliceOk 4 (fun n => (Lit.int .u32 n).wf = true)) l0) (ok1 : (SliceOk 4 (fun n => (Lit.int .u32 n).wf = true)) l1) : ∃ k, offertorylaw02_RingSums.f k l0 l1 = some true := by
  have n0 := len_of ok0
  refine Ev.rounds ?_
  unfold offertorylaw02_RingSums.f
  by_cases hl : l0.length = l1.length
  · refine Ev.bind (add_f l0 l1 hl (by omega)) (Ev.bind (sub_f l0 l1 hl (by omega)) ?_)
    refine Ev.pos (by omega) (Ev.pos rfl (Ev.pos rfl (Ev.pos (by rw [addL_length hl]) ?_)))
    rw [subL_length hl]
    refine Ev.succ ?_
    simp only [offertorylaw02_RingSums.j0, bne_self_eq_false]
    refine Ev.neg (by decide) ?_
    exact sums_l0 l0 l1 hl (by omega) (small_of ok0) (small_of ok1) _ 0 rfl (Nat.zero_le _)
  · refine Ev.bind (add_no l0 l1 hl) (Ev.bind (sub_no l0 l1 hl) ?_)
    refine Ev.neg (by omega) (Ev.bind0 rfl ?_)
    exact Ev.pos rfl (Ev.pos rfl (Ev.pos rfl (Ev.pos rfl (Ev.some_ rfl))))
end Go.Proofs.Ythlbolibaheclaa.Pure
