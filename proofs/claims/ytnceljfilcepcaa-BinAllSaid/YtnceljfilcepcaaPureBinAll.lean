/- BinAll, the plain law. -/
import Derived.Test.YtnceljfilcepcaaPlainBinLaw
namespace Go.Proofs.Ytnceljfilcepcaa.Pure
open Go.RowKit Go.Proofs.Ytnceljfilcepcaa.PAll Go.Proofs.Ytnceljfilcepcaa.Opn Go.Proofs.Ytnceljfilcepcaa.Base Go.Proofs.Ytnceljfilcepcaa.Plain Go.Proofs.YtnceljfilcepcaaW.PrintWords Go.Proofs.YtnceljfilcepcaaW.PrintLast Go.Proofs.YtnceljfilcepcaaW.PrintMore
set_option linter.unusedVariables false
set_option linter.unusedSimpArgs false
theorem sum_drop (c : List Int) (i : Nat) (h : i < c.length) : (c.drop i).sum = c.getD i 0 + (c.drop (i + 1)).sum := by
  rw [List.drop_eq_getElem_cons h, List.sum_cons, List.getD_eq_getElem?_getD, List.getElem?_eq_getElem h]
  rfl
theorem getD_set_bump (c : List Int) (n : Nat) : c.set n (c.getD n 0 + 1) = bump c n := rfl
theorem all_l0 (lo hi most : Int) (es l : List Int) (x : Int) (out : List Int) (hl : es.length ≤ 9223372036854775806) (h1 : -9223372036854775808 ≤ lo ∧ lo ≤ 9223372036854775807) (h2 : -9223372036854775808 ≤ hi ∧ hi ≤ 9223372036854775807) (hs : soundE lo hi most es = 0) (hlm : l.length ≤ 500) (ho : out = counts lo hi es (zeros es) l) :
    ∀ (d i : Nat) (a : Int), out.length - i = d → i ≤ out.length → 0 ≤ a → a + (out.drop i).sum = l.length →
    Ev (fun k => offertorylaw11_BinAll.l0 k l x out a (i : Int) lo hi most es) true
  | d, i, a, hd, hi', ha, hsum => by
    obtain ⟨a1, a2, a3, a4, a5, a6, a7, a8⟩ := sound0 hs
    have hol : out.length = es.length + 1 := by rw [ho, counts_length, zeros_length]
    have hin : ∀ v ∈ out, (0 : Int) ≤ v ∧ v ≤ 500 := by
      intro v hv
      rw [ho] at hv
      have := counts_in lo hi es l (zeros es) 0 (zeros_length es) (zeros_in es) v hv
      omega
    refine Ev.succ ?_
    simp only [offertorylaw11_BinAll.l0, rd_nat]
    by_cases h : i < out.length
    · refine Ev.pos (by omega) (Ev.pos (by omega) ?_)
      have hg := getD_in hin h
      rw [sum_drop out i h] at hsum
      have hpos : 0 ≤ (out.drop (i + 1)).sum := by
        have : ∀ c : List Int, (∀ v ∈ c, (0 : Int) ≤ v) → 0 ≤ c.sum := by
          intro c hc
          induction c with
          | nil => exact Int.le_refl 0
          | cons v c ih =>
            rw [List.sum_cons]
            have := ih (fun v hv => hc v (List.mem_cons_of_mem _ hv))
            have := hc v List.mem_cons_self
            omega
        exact this _ (fun v hv => (hin v (List.mem_of_mem_drop hv)).1)
      rw [w64 (x := a + out.getD i 0) (by omega), w64 (x := (i : Int) + 1) (by omega)]
      exact all_l0 lo hi most es l x out hl h1 h2 hs hlm ho (d - 1) (i + 1) _ (by omega) (by omega) (by omega) (by omega)
    · rw [List.drop_eq_nil_of_le (by omega), List.sum_nil] at hsum
      refine Ev.neg (by omega) ?_
      simp only [Option.bind_some, List.length_append, List.length_nil, List.length_cons, Nat.zero_add, List.nil_append]
      refine Ev.pos (by omega) (Ev.pos (by omega) ?_)
      refine Ev.bind (count_f lo hi most es (l ++ [x]) hl h1 h2) (Ev.bind (find_f lo hi most es x hl h1 h2) ?_)
      simp only [hs, if_true]
      refine Ev.pos (by omega) ?_
      by_cases hm : ((l ++ [x]).length : Int) > most
      · simp only [hm, if_true]
        refine Ev.neg (by decide) (Ev.some_ rfl)
      · simp only [hm, if_false, if_true]
        have hb := binN_le es (clampV lo hi x)
        refine Ev.pos (by omega) (Ev.pos (by omega) ?_)
        have hg := getD_in hin (n := binN es (clampV lo hi x)) (by omega)
        rw [rd_nat, w64 (by omega)]
        rw [show ((binN es (clampV lo hi x) : Nat) : Int).toNat = binN es (clampV lo hi x) by omega, getD_set_bump]
        refine Ev.bind (ints_f _ _ (by rw [bump_length]; omega)) (Ev.some_ ?_)
        rw [counts_append, ← ho]
        simp [counts]
  termination_by d _ _ => d
  decreasing_by all_goals omega
theorem BinAll (a0_0 : Int) (a0_1 : Int) (a0_2 : Int) (l0_3 : List Int) (l1 : List Int) (a2 : Int) (w0_0 : (Lit.int .i64 a0_0).wf = true) (w0_1 : (Lit.int .i64 a0_1).wf = true) (w0_2 : (Lit.int .i64 a0_2).wf = true) (w0_3 : (SliceOk 8 (fun n => (Lit.int .i64 n).wf = true)) l0_3) (ok1 : (SliceOk 8 (fun n => (Lit.int .i64 n).wf = true)) l1) (w2 : (Lit.int .i64 a2).wf = true) : ∃ k, offertorylaw11_BinAll.f k a0_0 a0_1 a0_2 l0_3 l1 a2 = some true := by
  have h1 := i64_of w0_0
  have h2 := i64_of w0_1
  have hl : l0_3.length ≤ 9223372036854775806 := by have := w0_3.1; omega
  have key : ∀ l : List Int, l.length ≤ 500 → Ev (fun k => offertorylaw11_BinAll.j0 k l a2 a0_0 a0_1 a0_2 l0_3) true := by
    intro l hll
    refine Ev.succ ?_
    simp only [offertorylaw11_BinAll.j0]
    refine Ev.bind (count_f _ _ _ _ _ hl h1 h2) (Ev.bind awake_f ?_)
    simp only [if_true]
    refine Ev.succ ?_
    simp only [offertorylaw11_BinAll.j1]
    by_cases h : soundE a0_0 a0_1 a0_2 l0_3 = 0
    · simp only [h, if_true]
      by_cases hm : (l.length : Int) > a0_2
      · simp only [hm, if_true]
        exact Ev.pos (by decide) (Ev.bind awake_f (Ev.now _))
      · simp only [hm, if_false]
        refine Ev.neg (by decide) ?_
        exact all_l0 a0_0 a0_1 a0_2 l0_3 l a2 _ hl h1 h2 h hll rfl _ 0 0 rfl (Nat.zero_le _) (Int.le_refl _) (by rw [List.drop_zero, counts_sum _ _ _ _ _ (zeros_length _), zeros_sum]; omega)
    · simp only [h, if_false]
      have : (soundE a0_0 a0_1 a0_2 l0_3 != 0) = true := by simpa using h
      exact Ev.pos this (Ev.bind awake_f (Ev.now _))
  refine Ev.rounds ?_
  unfold offertorylaw11_BinAll.f
  refine Ev.if_ (fun h => Ev.pos (by omega) (key _ (by rw [List.length_take]; omega))) (fun h => key _ (by omega))
end Go.Proofs.Ytnceljfilcepcaa.Pure
