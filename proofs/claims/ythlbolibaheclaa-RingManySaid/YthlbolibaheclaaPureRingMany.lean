/- RingMany, the plain law. -/
import Derived.Test.YthlbolibaheclaaPlainRingSum
namespace Go.Proofs.Ythlbolibaheclaa.Pure
open Go.RowKit Go.Proofs.Ythlbolibaheclaa.PAll Go.Proofs.Ythlbolibaheclaa.Opn Go.Proofs.Ythlbolibaheclaa.Base Go.Proofs.Ythlbolibaheclaa.Plain Go.Proofs.YthlbolibaheclaaW.PrintWords Go.Proofs.YthlbolibaheclaaW.PrintLast Go.Proofs.YthlbolibaheclaaW.PrintMore
set_option linter.unusedVariables false
set_option linter.unusedSimpArgs false
def Bad (l : List (List Int)) (n : Int) (i : Nat) (x7 : Int) : Prop := x7 = 1 ∨ (x7 = 0 ∧ ∃ j, i ≤ j ∧ j < l.length ∧ ((l.getD j []).length : Int) ≠ n)
theorem many_bad (l : List (List Int)) (n : Int) (hl : l.length ≤ 9223372036854775806) :
    ∀ (d i : Nat) (x7 : Int), l.length - i = d → i ≤ l.length → Bad l n i x7 → Ev (fun k => offertorylaw02_RingMany.l0 k n l [] 1 x7 (i : Int)) true
  | d, i, x7, hd, hi, hb => by
    refine Ev.succ ?_
    simp only [offertorylaw02_RingMany.l0, rdL_nat]
    by_cases h : i < l.length
    · refine Ev.pos (by omega) (Ev.pos (by omega) (Ev.if_ (fun he => ?_) (fun he => ?_)))
      · rw [w64 (by omega)]
        refine many_bad l n hl (d - 1) (i + 1) x7 (by omega) (by omega) ?_
        rcases hb with hb | ⟨h0, j, h1, h2, h3⟩
        · exact Or.inl hb
        · refine Or.inr ⟨h0, j, ?_, h2, h3⟩
          by_cases e : i = j
          · subst e; exact absurd he h3
          · omega
      · rw [w64 (by omega)]
        exact many_bad l n hl (d - 1) (i + 1) 1 (by omega) (by omega) (Or.inl rfl)
    · have h7 : x7 = 1 := by
        rcases hb with hb | ⟨_, j, h1, h2, _⟩
        · exact hb
        · exact absurd h2 (by omega)
      subst h7
      refine Ev.neg (by omega) (Ev.neg (by decide) (Ev.bind0 rfl (Ev.pos (by first | rfl | trivial) (Ev.pos rfl (Ev.some_ rfl)))))
  termination_by d _ _ => d
  decreasing_by all_goals omega
theorem many_l2 (l : List (List Int)) (n m : Nat) (x5 : List Int) (h5 : x5.length = n) (hs : ∀ v ∈ l, Small v) (hm : m < n) (hn : n ≤ 35184372088000) (hl : l.length ≤ 9223372036854775806) (hall : ∀ j, j < l.length → (l.getD j []).length = n)
    (h0 : 0 ≤ x5.getD m 0 ∧ x5.getD m 0 ≤ 4294967295) (hk : Ev (fun k => offertorylaw02_RingMany.l1 k (n : Int) l x5 (wrap64 ((m : Int) + 1))) true) :
    ∀ (d i : Nat) (acc : Int), l.length - i = d → i ≤ l.length → 0 ≤ acc → (l.drop i).foldl (stepC m) (acc % 4294967296) = x5.getD m 0 →
    Ev (fun k => offertorylaw02_RingMany.l2 k (n : Int) l x5 (m : Int) acc (i : Int)) true
  | d, i, acc, hd, hi, ha, hf => by
    refine Ev.succ ?_
    simp only [offertorylaw02_RingMany.l2, rdL_nat, rd_nat]
    by_cases h : i < l.length
    · have hi' := hall i h
      refine Ev.pos (by omega) (Ev.pos (by omega) (Ev.pos (by omega) (Ev.pos (by omega) ?_)))
      rw [w64 (x := (i : Int) + 1) (by omega)]
      rw [drop_cons h] at hf
      have hv : Small (l.getD i []) := by
        rw [List.getD_eq_getElem?_getD, List.getElem?_eq_getElem h]
        exact hs _ (List.getElem_mem h)
      have hv1 := hv m
      rw [wu64 (x := (l.getD i []).getD m 0) (by omega)]
      have he : IntKind.u64.wrap (acc + (l.getD i []).getD m 0) = (acc + (l.getD i []).getD m 0) % 18446744073709551616 := IntKind.wrap_u64 _
      rw [he]
      refine many_l2 l n m x5 h5 hs hm hn hl hall h0 hk (d - 1) (i + 1) _ (by omega) (by omega) (by omega) ?_
      rw [← hf, List.foldl_cons]
      congr 1
      unfold stepC
      omega
    · rw [List.drop_eq_nil_of_le (by omega)] at hf
      simp only [List.foldl_nil] at hf
      refine Ev.neg (by omega) (Ev.pos (by omega) (Ev.pos (by omega) (Ev.pos ?_ hk)))
      rw [wu64 (by omega), Int.tmod_eq_emod_of_nonneg ha]
      exact hf.symm
  termination_by d _ _ => d
  decreasing_by all_goals omega
theorem col_in (l : List (List Int)) (m : Nat) : 0 ≤ colS l m ∧ colS l m ≤ 4294967295 := by
  have key : ∀ (l : List (List Int)) (s : Int), 0 ≤ s ∧ s ≤ 4294967295 → 0 ≤ l.foldl (stepC m) s ∧ l.foldl (stepC m) s ≤ 4294967295 := by
    intro l
    induction l with
    | nil => intro s h; exact h
    | cons v l ih => intro s h; exact ih _ (by unfold stepC; omega)
  exact key l 0 (by omega)
theorem many_l1 (l : List (List Int)) (n : Nat) (hs : ∀ v ∈ l, Small v) (hn : n ≤ 35184372088000) (hl : l.length ≤ 9223372036854775806) (hall : ∀ j, j < l.length → (l.getD j []).length = n) :
    ∀ (d m : Nat), n - m = d → Ev (fun k => offertorylaw02_RingMany.l1 k (n : Int) l (sumL n l) (m : Int)) true
  | d, m, hd => by
    refine Ev.succ ?_
    simp only [offertorylaw02_RingMany.l1]
    by_cases h : m < n
    · have hc := col_in l m
      have hg := sumL_get n l m h
      refine Ev.pos (by omega) ?_
      have ih := many_l1 l n hs hn hl hall (d - 1) (m + 1) (by omega)
      refine many_l2 l n m (sumL n l) (sumL_length _ _) hs h hn hl hall (by omega) ?_ _ 0 0 rfl (Nat.zero_le _) (by omega) ?_
      · rw [w64 (by omega)]
        exact ih
      · rw [hg, List.drop_zero]
        rfl
    · exact Ev.neg (by omega) (Ev.bind0 rfl (Ev.some_ rfl))
  termination_by d _ => d
  decreasing_by all_goals omega
theorem many_ok (l : List (List Int)) (n : Nat) (hs : ∀ v ∈ l, Small v) (hn : n ≤ 35184372088000) (hl : l.length ≤ 9223372036854775806) (hall : ∀ j, j < l.length → (l.getD j []).length = n) :
    ∀ (d i : Nat), l.length - i = d → i ≤ l.length → Ev (fun k => offertorylaw02_RingMany.l0 k (n : Int) l (sumL n l) 0 0 (i : Int)) true
  | d, i, hd, hi => by
    refine Ev.succ ?_
    simp only [offertorylaw02_RingMany.l0, rdL_nat]
    by_cases h : i < l.length
    · have := hall i h
      refine Ev.pos (by omega) (Ev.pos (by omega) (Ev.pos (by omega) ?_))
      rw [w64 (by omega)]
      exact many_ok l n hs hn hl hall (d - 1) (i + 1) (by omega) (by omega)
    · refine Ev.neg (by omega) (Ev.pos (by first | rfl | trivial) (Ev.pos (by first | rfl | trivial) ?_))
      rw [sumL_length, bne_self_eq_false]
      refine Ev.succ ?_
      simp only [offertorylaw02_RingMany.j3]
      exact Ev.neg (by decide) (many_l1 l n hs hn hl hall _ 0 rfl)
  termination_by d _ => d
  decreasing_by all_goals omega
theorem RingMany (a0 : Int) (l1 : List (List Int)) (w0 : (Lit.int .i64 a0).wf = true) (ok1 : (SliceOk 24 (SliceOk 4 (fun n => (Lit.int .u32 n).wf = true))) l1) : ∃ k, offertorylaw02_RingMany.f k a0 l1 = some true := by
  have h0 := i64_of w0
  have hl : l1.length ≤ 9223372036854775806 := by have := ok1.1; omega
  have hs : ∀ v ∈ l1, Small v := fun v hv => small_of (ok1.2.2 v hv)
  have main : ¬ (l1.length = 0 ∧ a0 > 1048576) → Ev (fun k => offertorylaw02_RingMany.j0 k a0 l1 false) true := by
    intro hg
    refine Ev.succ ?_
    simp only [offertorylaw02_RingMany.j0]
    refine Ev.neg (by decide) ?_
    by_cases hn : a0 < 0
    · have hsum : Ev (fun k => ring_Sum.f k a0 l1) ([], 1) := by
        unfold ring_Sum.f
        exact Ev.pos hn (Ev.some_ rfl)
      refine Ev.bind hsum (Ev.pos hn (Ev.succ ?_))
      simp only [offertorylaw02_RingMany.j1]
      exact many_bad l1 a0 hl _ 0 1 rfl (Nat.zero_le _) (Or.inl rfl)
    · by_cases hall : ∀ j, j < l1.length → ((l1.getD j []).length : Int) = a0
      · obtain ⟨n, rfl⟩ := Int.eq_ofNat_of_zero_le (show 0 ≤ a0 by omega)
        have hall' : ∀ j, j < l1.length → (l1.getD j []).length = n := fun j hj => by have := hall j hj; omega
        have hn' : n ≤ 35184372088000 := by
          by_cases he : l1.length = 0
          · omega
          · have h1 := hall' 0 (by omega)
            have h2 : (l1.getD 0 []).length ≤ 35184372087808 := by
              rw [List.getD_eq_getElem?_getD, List.getElem?_eq_getElem (by omega)]
              exact len_of (ok1.2.2 _ (List.getElem_mem _))
            omega
        refine Ev.bind (sum_f l1 n hn' hl hall') (Ev.neg hn (Ev.succ ?_))
        simp only [offertorylaw02_RingMany.j1]
        exact many_ok l1 n hs hn' hl hall' _ 0 rfl (Nat.zero_le _)
      · have hex : ∃ j, j < l1.length ∧ ((l1.getD j []).length : Int) ≠ a0 := by
          refine Classical.byContradiction (fun hc => hall (fun j hj => Classical.byContradiction (fun h3 => hc ⟨j, hj, h3⟩)))
        obtain ⟨j, h2, h3⟩ := hex
        refine Ev.bind (sum_no l1 a0 hl j h2 h3) (Ev.neg hn (Ev.succ ?_))
        simp only [offertorylaw02_RingMany.j1]
        exact many_bad l1 a0 hl _ 0 0 rfl (Nat.zero_le _) (Or.inr ⟨rfl, j, Nat.zero_le _, h2, h3⟩)
  refine Ev.rounds ?_
  unfold offertorylaw02_RingMany.f
  refine Ev.if_ (fun h => ?_) (fun h => main (by omega))
  by_cases hb : a0 > 1048576
  · rw [decide_eq_true hb]
    refine Ev.succ ?_
    simp only [offertorylaw02_RingMany.j0, if_true]
    exact Ev.bind0 rfl (Ev.some_ rfl)
  · rw [decide_eq_false hb]
    exact main (by omega)
end Go.Proofs.Ythlbolibaheclaa.Pure
