/- BinCounts, the plain law. -/
import Derived.Test.YtnceljfilcepcaaPlainBinLaw
namespace Go.Proofs.Ytnceljfilcepcaa.Pure
open Go.RowKit Go.Proofs.Ytnceljfilcepcaa.PAll Go.Proofs.Ytnceljfilcepcaa.Opn Go.Proofs.Ytnceljfilcepcaa.Base Go.Proofs.Ytnceljfilcepcaa.Plain Go.Proofs.YtnceljfilcepcaaW.PrintWords Go.Proofs.YtnceljfilcepcaaW.PrintLast Go.Proofs.YtnceljfilcepcaaW.PrintMore
set_option linter.unusedVariables false
set_option linter.unusedSimpArgs false
theorem wants_l0 (lo hi most : Int) (es l : List Int) (out : List Int) (hs : soundE lo hi most es = 0) (hlm : l.length ≤ 1000000) (ho : out.length ≤ 9223372036854775806) : ∀ (d i : Nat) (c : List Int), l.length - i = d → i ≤ l.length → c.length = es.length + 1 → (∀ v ∈ c, 0 ≤ v ∧ v ≤ (i : Int)) →
    Ev (fun k => offertorylaw11_BinCounts.l0 k l out 0 c (i : Int) lo hi most es) (decide (out = counts lo hi es c (l.drop i)))
  | d, i, c, hd, hi', hc, hin => by
    obtain ⟨a1, a2, a3, a4, a5, a6, a7, a8⟩ := sound0 hs
    refine Ev.succ ?_
    simp only [offertorylaw11_BinCounts.l0, rd_nat]
    by_cases h : i < l.length
    · refine Ev.pos (by omega) (Ev.pos (by omega) ?_)
      refine Ev.bind (refBin_f lo hi most es (l.getD i 0) a3 a8) ?_
      have hb := binN_le es (clampV lo hi (l.getD i 0))
      refine Ev.pos (by omega) (Ev.pos (by omega) ?_)
      have hg := getD_in hin (n := binN es (clampV lo hi (l.getD i 0))) (by omega)
      rw [rd_nat, w64 (x := (i : Int) + 1) (by omega), w64 (by omega)]
      have ih := wants_l0 lo hi most es l out hs hlm ho (d - 1) (i + 1) (bump c (binN es (clampV lo hi (l.getD i 0)))) (by omega) (by omega) (by rw [bump_length]; exact hc) (by
        have := bump_in hin (n := binN es (clampV lo hi (l.getD i 0))) (by omega)
        intro v hv
        have := this v hv
        omega)
      rw [List.drop_eq_getElem_cons h]
      have e : l[i] = l.getD i 0 := by rw [List.getD_eq_getElem?_getD, List.getElem?_eq_getElem h]; rfl
      rw [e]
      exact ih
    · refine Ev.neg (by omega) (Ev.bind awake_f ?_)
      simp only [if_true]
      refine Ev.bind (ints_f out c ho) (Ev.some_ ?_)
      rw [List.drop_eq_nil_of_le (by omega)]
      rfl
  termination_by d _ _ => d
  decreasing_by all_goals omega
theorem BinCounts (a0_0 : Int) (a0_1 : Int) (a0_2 : Int) (l0_3 : List Int) (l1 : List Int) (w0_0 : (Lit.int .i64 a0_0).wf = true) (w0_1 : (Lit.int .i64 a0_1).wf = true) (w0_2 : (Lit.int .i64 a0_2).wf = true) (w0_3 : (SliceOk 8 (fun n => (Lit.int .i64 n).wf = true)) l0_3) (ok1 : (SliceOk 8 (fun n => (Lit.int .i64 n).wf = true)) l1) : ∃ k, offertorylaw11_BinCounts.f k a0_0 a0_1 a0_2 l0_3 l1 = some true := by
  have h1 := i64_of w0_0
  have h2 := i64_of w0_1
  have hl : l0_3.length ≤ 9223372036854775806 := by have := w0_3.1; omega
  have key : ∀ l : List Int, l.length ≤ 2000 → Ev (fun k => offertorylaw11_BinCounts.j0 k l a0_0 a0_1 a0_2 l0_3) true := by
    intro l hll
    refine Ev.succ ?_
    simp only [offertorylaw11_BinCounts.j0]
    refine Ev.bind (count_f _ _ _ _ _ hl h1 h2) (Ev.bind (refSound_f _ _ _ _ h1 h2) ?_)
    refine Ev.if_ (fun h => ?_) (fun h => ?_)
    · obtain ⟨a, b, c, d, e, f, g, h64⟩ := sound0 h
      simp only [h, if_true]
      refine Ev.succ ?_
      simp only [offertorylaw11_BinCounts.j1, decide_eq_true_eq]
      refine Ev.if_ (fun hm => ?_) (fun hm => ?_)
      · simp only [hm, if_true]
        refine Ev.succ ?_
        simp only [offertorylaw11_BinCounts.j2]
        refine Ev.neg (by decide) (Ev.bind awake_f ?_)
        simp only [if_true]
        exact Ev.some_ rfl
      · simp only [hm, if_false]
        refine Ev.succ ?_
        simp only [offertorylaw11_BinCounts.j2, if_true]
        rw [w64 (by omega)]
        refine Ev.pos (by omega) (Ev.pos (by omega) ?_)
        rw [show ((l0_3.length : Int) + 1).toNat = l0_3.length + 1 by omega]
        have := wants_l0 a0_0 a0_1 a0_2 l0_3 l (counts a0_0 a0_1 l0_3 (zeros l0_3) l) h (by omega) (by rw [counts_length, zeros_length]; omega) _ 0 (zeros l0_3) rfl (Nat.zero_le _) (zeros_length _) (zeros_in _)
        rw [List.drop_zero, decide_eq_true rfl] at this
        exact this
    · simp only [h, if_false]
      refine Ev.succ ?_
      simp only [offertorylaw11_BinCounts.j1]
      refine Ev.neg (by decide) (Ev.succ ?_)
      simp only [offertorylaw11_BinCounts.j2]
      refine Ev.neg h (Ev.bind awake_f ?_)
      simp only [if_true]
      exact Ev.some_ rfl
  refine Ev.rounds ?_
  unfold offertorylaw11_BinCounts.f
  refine Ev.if_ (fun h => Ev.pos (by omega) (key _ (by rw [List.length_take]; omega))) (fun h => key _ (by omega))
end Go.Proofs.Ytnceljfilcepcaa.Pure
