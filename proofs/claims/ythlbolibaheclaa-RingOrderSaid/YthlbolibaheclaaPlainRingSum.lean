/- The sum of many vectors. -/
import Derived.Test.YthlbolibaheclaaPlainRing
namespace Go.Proofs.Ythlbolibaheclaa.Plain
open Go.RowKit Go.Proofs.Ythlbolibaheclaa.PAll Go.Proofs.Ythlbolibaheclaa.Opn Go.Proofs.Ythlbolibaheclaa.Base Go.Proofs.YthlbolibaheclaaW.PrintWords Go.Proofs.YthlbolibaheclaaW.PrintLast Go.Proofs.YthlbolibaheclaaW.PrintMore
set_option linter.unusedVariables false
set_option linter.unusedSimpArgs false

theorem rdL_nat (l : List (List Int)) (i : Nat) : rd_L1 l (i : Int) = l.getD i [] := rfl
def stepC (m : Nat) (s : Int) (v : List Int) : Int := (s + v.getD m 0) % 4294967296
def colS (l : List (List Int)) (m : Nat) : Int := l.foldl (stepC m) 0
def sumL (n : Nat) (l : List (List Int)) : List Int := (List.range n).map (colS l)
theorem sumL_length (n : Nat) (l : List (List Int)) : (sumL n l).length = n := by simp [sumL]
theorem sumL_get (n : Nat) (l : List (List Int)) (m : Nat) (h : m < n) : (sumL n l).getD m 0 = colS l m := by
  simp [sumL, List.getD_eq_getElem?_getD, h]
theorem drop_cons {l : List (List Int)} {i : Nat} (h : i < l.length) : l.drop i = l.getD i [] :: l.drop (i + 1) := by
  rw [List.drop_eq_getElem_cons h, List.getD_eq_getElem?_getD, List.getElem?_eq_getElem h]
  rfl

theorem sum_l2 (l : List (List Int)) (n m : Nat) (x8 : List Int) (hm : m < n) (hn : n ≤ 35184372088000) (hx : x8.length < 35184372088832) (hl : l.length ≤ 9223372036854775806) (hall : ∀ j, j < l.length → (l.getD j []).length = n) (r : List Int × Int) :
    ∀ (d i : Nat) (acc : Int), l.length - i = d → i ≤ l.length → Ev (fun k => ring_Sum.l1 k l (x8 ++ [(l.drop i).foldl (stepC m) acc]) (n : Int) (wrap64 ((m : Int) + 1))) r →
    Ev (fun k => ring_Sum.l2 k l x8 (m : Int) acc (n : Int) (m : Int) l (l.length : Int) (i : Int)) r
  | d, i, acc, hd, hi, hk => by
    refine Ev.succ ?_
    simp only [ring_Sum.l2, rdL_nat, rd_nat, ring_cell_plus.f, Option.bind_some]
    by_cases h : i < l.length
    · have := hall i h
      refine Ev.pos (by omega) (Ev.pos (by omega) (Ev.pos (by omega) (Ev.pos (by omega) (Ev.pos (by omega) ?_))))
      rw [w64 (x := (i : Int) + 1) (by omega)]
      refine sum_l2 l n m x8 hm hn hx hl hall r (d - 1) (i + 1) _ (by omega) (by omega) ?_
      rw [drop_cons h] at hk
      exact hk
    · refine Ev.neg (by omega) (Ev.pos hx ?_)
      rw [List.drop_eq_nil_of_le (by omega)] at hk
      exact hk
  termination_by d _ _ => d
  decreasing_by all_goals omega
theorem sum_l1 (l : List (List Int)) (n : Nat) (hn : n ≤ 35184372088000) (hl : l.length ≤ 9223372036854775806) (hall : ∀ j, j < l.length → (l.getD j []).length = n) :
    ∀ (d m : Nat), n - m = d → m ≤ n → Ev (fun k => ring_Sum.l1 k l ((List.range m).map (colS l)) (n : Int) (m : Int)) (sumL n l, 0)
  | d, m, hd, hm => by
    refine Ev.succ ?_
    simp only [ring_Sum.l1]
    by_cases h : m < n
    · refine Ev.pos (by omega) ?_
      refine sum_l2 l n m _ h hn (by simp; omega) hl hall _ _ 0 0 rfl (Nat.zero_le _) ?_
      rw [w64 (by omega), List.drop_zero]
      have ih := sum_l1 l n hn hl hall (d - 1) (m + 1) (by omega) (by omega)
      rw [List.range_succ, List.map_append] at ih
      exact ih
    · refine Ev.neg (by omega) (Ev.some_ ?_)
      rw [show m = n by omega]
      rfl
  termination_by d _ => d
  decreasing_by all_goals omega
theorem sum_l0 (l : List (List Int)) (n : Nat) (hn : n ≤ 35184372088000) (hl : l.length ≤ 9223372036854775806) (hall : ∀ j, j < l.length → (l.getD j []).length = n) :
    ∀ (d i : Nat), l.length - i = d → i ≤ l.length → Ev (fun k => ring_Sum.l0 k (n : Int) l l (l.length : Int) (i : Int)) (sumL n l, 0)
  | d, i, hd, hi => by
    refine Ev.succ ?_
    simp only [ring_Sum.l0, rdL_nat]
    by_cases h : i < l.length
    · have := hall i h
      refine Ev.pos (by omega) (Ev.pos (by omega) (Ev.pos (by omega) (Ev.pos (by omega) ?_)))
      rw [w64 (by omega)]
      exact sum_l0 l n hn hl hall (d - 1) (i + 1) (by omega) (by omega)
    · exact Ev.neg (by omega) (sum_l1 l n hn hl hall _ 0 rfl (Nat.zero_le _))
  termination_by d _ => d
  decreasing_by all_goals omega
/-- All are as long as told. -/
theorem sum_f (l : List (List Int)) (n : Nat) (hn : n ≤ 35184372088000) (hl : l.length ≤ 9223372036854775806) (hall : ∀ j, j < l.length → (l.getD j []).length = n) : Ev (fun k => ring_Sum.f k (n : Int) l) (sumL n l, 0) := by
  unfold ring_Sum.f
  exact Ev.neg (by omega) (sum_l0 l n hn hl hall _ 0 rfl (Nat.zero_le _))
theorem sum_no0 (l : List (List Int)) (n : Int) (hl : l.length ≤ 9223372036854775806) :
    ∀ (d i : Nat), l.length - i = d → (∃ j, i ≤ j ∧ j < l.length ∧ ((l.getD j []).length : Int) ≠ n) → Ev (fun k => ring_Sum.l0 k n l l (l.length : Int) (i : Int)) ([], 1)
  | d, i, hd, hb => by
    obtain ⟨j, h1, h2, h3⟩ := hb
    refine Ev.succ ?_
    simp only [ring_Sum.l0, rdL_nat]
    refine Ev.pos (by omega) (Ev.pos (by omega) (Ev.pos (by omega) (Ev.if_ (fun he => ?_) (fun he => Ev.some_ rfl))))
    rw [w64 (by omega)]
    refine sum_no0 l n hl (d - 1) (i + 1) (by omega) ⟨j, ?_, h2, h3⟩
    by_cases e : i = j
    · subst e; exact absurd he h3
    · omega
  termination_by d _ => d
  decreasing_by all_goals omega
/-- One is not. -/
theorem sum_no (l : List (List Int)) (n : Int) (hl : l.length ≤ 9223372036854775806) (j : Nat) (h2 : j < l.length) (h3 : ((l.getD j []).length : Int) ≠ n) : Ev (fun k => ring_Sum.f k n l) ([], 1) := by
  unfold ring_Sum.f
  exact Ev.if_ (fun _ => Ev.some_ rfl) (fun _ => sum_no0 l n hl _ 0 rfl ⟨j, Nat.zero_le _, h2, h3⟩)
end Go.Proofs.Ythlbolibaheclaa.Plain
