/- What the bins come to: how many samples each bin has. -/
import Derived.Test.YthbiijhjcoakfaaPlainBinFind
namespace Go.Proofs.Ythbiijhjcoakfaa.Plain
open Go.RowKit Go.Proofs.Ythbiijhjcoakfaa.PAll Go.Proofs.Ythbiijhjcoakfaa.Opn Go.Proofs.Ythbiijhjcoakfaa.Base Go.Proofs.YthbiijhjcoakfaaW.PrintWords Go.Proofs.YthbiijhjcoakfaaW.PrintLast Go.Proofs.YthbiijhjcoakfaaW.PrintMore
set_option linter.unusedVariables false
set_option linter.unusedSimpArgs false
theorem count_l0 (lo hi most : Int) (es l : List Int) (hs : soundE lo hi most es = 0) (hlm : l.length ≤ 1000000) : ∀ (d i : Nat) (c : List Int), l.length - i = d → i ≤ l.length → c.length = es.length + 1 → (∀ v ∈ c, 0 ≤ v ∧ v ≤ (i : Int)) →
    Ev (fun k => bin_Count.l0 k c l (l.length : Int) (i : Int) lo hi most es) (counts lo hi es c (l.drop i), 0)
  | d, i, c, hd, hi', hc, hin => by
    obtain ⟨a1, a2, a3, a4, a5, a6, a7, a8⟩ := sound0 hs
    refine Ev.succ ?_
    simp only [bin_Count.l0, rd_nat]
    by_cases h : i < l.length
    · refine Ev.pos (by omega) (Ev.pos (by omega) (Ev.pos (by omega) ?_))
      refine Ev.bind (find_f lo hi most es (l.getD i 0) (by omega) (by omega) (by omega)) ?_
      simp only [hs, if_true]
      have hb := binN_le es (clampV lo hi (l.getD i 0))
      refine Ev.pos (by omega) (Ev.pos (by omega) ?_)
      have hg := getD_in hin (n := binN es (clampV lo hi (l.getD i 0))) (by omega)
      rw [rd_nat, w64 (x := (i : Int) + 1) (by omega), w64 (by omega)]
      have ih := count_l0 lo hi most es l hs hlm (d - 1) (i + 1) (bump c (binN es (clampV lo hi (l.getD i 0)))) (by omega) (by omega) (by rw [bump_length]; exact hc) (by
        have := bump_in hin (n := binN es (clampV lo hi (l.getD i 0))) (by omega)
        intro v hv
        have := this v hv
        omega)
      rw [List.drop_eq_getElem_cons h]
      have e : l[i] = l.getD i 0 := by rw [List.getD_eq_getElem?_getD, List.getElem?_eq_getElem h]; rfl
      rw [e]
      exact ih
    · refine Ev.neg (by omega) (Ev.some_ ?_)
      rw [List.drop_eq_nil_of_le (by omega)]
      rfl
  termination_by d _ _ => d
  decreasing_by all_goals omega
/-- What Count answers. -/
theorem count_f (lo hi most : Int) (es l : List Int) (hl : es.length ≤ 9223372036854775806) (h1 : -9223372036854775808 ≤ lo ∧ lo ≤ 9223372036854775807) (h2 : -9223372036854775808 ≤ hi ∧ hi ≤ 9223372036854775807) :
    Ev (fun k => bin_Count.f k lo hi most es l) (if soundE lo hi most es = 0 then (if (l.length : Int) > most then ([], 9) else (counts lo hi es (zeros es) l, 0)) else ([], soundE lo hi most es)) := by
  unfold bin_Count.f
  refine Ev.bind (sound_f lo hi most es hl h1 h2) ?_
  by_cases h : soundE lo hi most es = 0
  · obtain ⟨a1, a2, a3, a4, a5, a6, a7, a8⟩ := sound0 h
    simp only [h, if_true]
    by_cases hm : (l.length : Int) > most
    · simp only [hm, if_true]; exact Ev.now _
    · simp only [hm, if_false]
      rw [w64 (by omega)]
      refine Ev.pos (by omega) (Ev.pos (by omega) ?_)
      have := count_l0 lo hi most es l h (by omega) _ 0 (zeros es) rfl (Nat.zero_le _) (zeros_length es) (zeros_in es)
      rw [show ((es.length : Int) + 1).toNat = es.length + 1 by omega]
      exact this
  · simp only [h, if_false]
    exact Ev.now _
end Go.Proofs.Ythbiijhjcoakfaa.Plain
