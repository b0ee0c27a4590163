/- TallyAdds, the plain law. -/
import Derived.Test.YthbiijhjcoakfaaPlainTallySum
namespace Go.Proofs.Ythbiijhjcoakfaa.Pure
open Go.RowKit Go.Proofs.Ythbiijhjcoakfaa.PAll Go.Proofs.Ythbiijhjcoakfaa.Opn Go.Proofs.Ythbiijhjcoakfaa.Base Go.Proofs.Ythbiijhjcoakfaa.Plain Go.Proofs.YthbiijhjcoakfaaW.PrintWords Go.Proofs.YthbiijhjcoakfaaW.PrintLast Go.Proofs.YthbiijhjcoakfaaW.PrintMore
set_option linter.unusedVariables false
set_option linter.unusedSimpArgs false

theorem adds_l0 (a b c : List Int) (hl : a.length ≤ 1000) (hb : b.length = a.length) (hc : c.length = a.length) (h : ∀ j, j < a.length → (a.getD j 0 + b.getD j 0) % 4294967296 = c.getD j 0) :
    ∀ d i : Nat, i + d = a.length → Ev (fun k => offertorylaw12_TallyAdds.l0 k (c.take i ++ a.drop i) b c (i : Int)) true := by
  intro d
  induction d with
  | zero =>
    intro i hi
    refine Ev.succ ?_
    simp only [offertorylaw12_TallyAdds.l0]
    rw [List.drop_eq_nil_of_le (by omega), List.append_nil, List.take_of_length_le (by omega)]
    exact Ev.neg (by omega) (Ev.bind (cells_f c (by omega)) (Ev.now _))
  | succ d ih =>
    intro i hi
    have hlen : (c.take i ++ a.drop i).length = a.length := by rw [List.length_append, List.length_take, List.length_drop]; omega
    have hget : (c.take i ++ a.drop i).getD i 0 = a.getD i 0 := by
      have h1 : (c.take i).length = i := by rw [List.length_take]; omega
      simp [List.getD, List.getElem?_append_right (by omega : (c.take i).length ≤ i), h1, List.getElem?_drop]
    have hset : (c.take i ++ a.drop i).set i (c.getD i 0) = c.take (i + 1) ++ a.drop (i + 1) := by
      have h1 : (c.take i).length = i := by rw [List.length_take]; omega
      have h2 : a.drop i = a[i] :: a.drop (i + 1) := List.drop_eq_getElem_cons (by omega)
      have h3 : c.take (i + 1) = c.take i ++ [c.getD i 0] := by
        rw [List.take_succ_eq_append_getElem (by omega)]
        simp [List.getD, List.getElem?_eq_getElem (by omega : i < c.length)]
      rw [h2, h3, List.set_append_right _ _ (by omega), h1, Nat.sub_self, List.set_cons_zero, List.append_assoc]
      rfl
    refine Ev.succ ?_
    simp only [offertorylaw12_TallyAdds.l0, rd_nat, Int.toNat_natCast]
    refine Ev.pos (by omega) (Ev.pos (by omega) (Ev.pos (by omega) ?_))
    rw [hget, h i (by omega), hset, w64 (by omega)]
    exact ih (i + 1) (by omega)
theorem adds_bad (v1 v2 v3 : List Int) (e1 e2 e3 : Int) (h : e3 ≠ 0) : Ev (fun k => offertorylaw12_TallyAdds.j1 k v1 e1 v2 e2 v3 e3 true) true := by
  refine Ev.succ ?_
  simp only [offertorylaw12_TallyAdds.j1]
  exact Ev.pos (by first | rfl | trivial) (Ev.bind awake_f (Ev.pos (by first | rfl | trivial) (Ev.neg h (Ev.now _))))
theorem adds_j0 (lo hi most : Int) (es a b : List Int) (hl : es.length ≤ 9223372036854775806) (h1 : -9223372036854775808 ≤ lo ∧ lo ≤ 9223372036854775807) (h2 : -9223372036854775808 ≤ hi ∧ hi ≤ 9223372036854775807) (ha : a.length ≤ 150) (hb : b.length ≤ 150) :
    Ev (fun k => offertorylaw12_TallyAdds.j0 k a b false lo hi most es) true := by
  obtain ⟨n, hn⟩ := bits_some lo hi most es
  have ea := encode_f lo hi most n es a hn hl h1 h2 (by omega)
  have eb := encode_f lo hi most n es b hn hl h1 h2 (by omega)
  have eab := encode_f lo hi most n es (a ++ b) hn hl h1 h2 (by rw [List.length_append]; omega)
  refine Ev.succ ?_
  simp only [offertorylaw12_TallyAdds.j0]
  refine Ev.neg (by decide) (Ev.bind ea (Ev.bind eb (Ev.bind0 rfl (Ev.pos (by simp only [List.length_nil]; omega) (Ev.bind0 rfl (Ev.pos (by simp only [List.nil_append]; omega) ?_))))))
  rw [List.nil_append]
  refine Ev.bind eab (Ev.bind awake_f (Ev.pos (by first | rfl | trivial) ?_))
  by_cases h : soundE lo hi most es = 0
  · simp only [h, if_true]
    obtain ⟨_, _, c, d, _, _, _, e⟩ := sound0 h
    have hb' := hn h
    have h40 := hb'.le40 d
    have h01 := hb'.1
    by_cases c1 : (a.length : Int) > most
    · have c3 : ((a ++ b).length : Int) > most := by rw [List.length_append]; omega
      simp only [c1, c3, if_true]
      exact Ev.neg (by decide) (adds_bad _ _ _ _ _ _ (by decide))
    · simp only [c1, if_false]
      refine Ev.pos (by first | rfl | trivial) ?_
      by_cases c2 : (b.length : Int) > most
      · have c3 : ((a ++ b).length : Int) > most := by rw [List.length_append]; omega
        simp only [c2, c3, if_true]
        exact Ev.neg (by decide) (adds_bad _ _ _ _ _ _ (by decide))
      · simp only [c2, if_false]
        refine Ev.pos (by first | rfl | trivial) ?_
        by_cases c3 : ((a ++ b).length : Int) > most
        · simp only [c3, if_true]
          exact adds_bad _ _ _ _ _ _ (by decide)
        · simp only [c3, if_false]
          refine Ev.succ ?_
          simp only [offertorylaw12_TallyAdds.j1]
          refine Ev.neg (by decide) ?_
          have key := adds_l0 (vecV lo hi es a n.toNat) (vecV lo hi es b n.toNat) (vecV lo hi es (a ++ b) n.toNat) (by rw [vec_length]; omega) (by rw [vec_length, vec_length]) (by rw [vec_length, vec_length])
            (fun j hj => by rw [vec_get, vec_get, vec_get, vecAt_append]) (vecV lo hi es a n.toNat).length 0 (by omega)
          exact key
  · simp only [h, if_false]
    first | exact adds_bad _ _ _ _ _ _ h | exact Ev.neg h (adds_bad _ _ _ _ _ _ h)
theorem TallyAdds (a0_0 : Int) (a0_1 : Int) (a0_2 : Int) (l0_3 : List Int) (l1 : List Int) (l2 : List Int) (w0_0 : (Lit.int .i64 a0_0).wf = true) (w0_1 : (Lit.int .i64 a0_1).wf = true) (w0_2 : (Lit.int .i64 a0_2).wf = true) (w0_3 : (SliceOk 8 (fun n => (Lit.int .i64 n).wf = true)) l0_3) (ok1 : (SliceOk 8 (fun n => (Lit.int .i64 n).wf = true)) l1) (ok2 : (SliceOk 8 (fun n => (Lit.int .i64 n).wf = true)) l2) : ∃ k, offertorylaw12_TallyAdds.f k a0_0 a0_1 a0_2 l0_3 l1 l2 = some true := by
  have h1 := i64_of w0_0
  have h2 := i64_of w0_1
  have hl : l0_3.length ≤ 9223372036854775806 := by have := w0_3.1; omega
  have bad : Ev (fun k => offertorylaw12_TallyAdds.j0 k l1 l2 true a0_0 a0_1 a0_2 l0_3) true := by
    refine Ev.succ ?_
    simp only [offertorylaw12_TallyAdds.j0]
    exact Ev.pos (by first | rfl | trivial) (Ev.bind awake_f (Ev.now _))
  refine Ev.rounds ?_
  unfold offertorylaw12_TallyAdds.f
  refine Ev.if_ (fun h => bad) (fun h => ?_)
  by_cases hb : (l2.length : Int) > 150
  · simp only [decide_eq_true hb]
    exact bad
  · simp only [decide_eq_false hb]
    exact adds_j0 _ _ _ _ _ _ hl h1 h2 (by omega) (by omega)
end Go.Proofs.Ythbiijhjcoakfaa.Pure
