/- TallyOrder, the plain law. -/
import Derived.Test.YthbiijhjcoakfaaPlainTallySum
namespace Go.Proofs.Ythbiijhjcoakfaa.Pure
open Go.RowKit Go.Proofs.Ythbiijhjcoakfaa.PAll Go.Proofs.Ythbiijhjcoakfaa.Opn Go.Proofs.Ythbiijhjcoakfaa.Base Go.Proofs.Ythbiijhjcoakfaa.Plain Go.Proofs.YthbiijhjcoakfaaW.PrintWords Go.Proofs.YthbiijhjcoakfaaW.PrintLast Go.Proofs.YthbiijhjcoakfaaW.PrintMore
set_option linter.unusedVariables false
set_option linter.unusedSimpArgs false

theorem order_j3t (far : Int) (t v : List Int) (lo hi most : Int) (es : List Int) : Ev (fun k => offertorylaw12_TallyOrder.j3 k far t v true lo hi most es) true := by
  refine Ev.succ ?_
  simp only [offertorylaw12_TallyOrder.j3]
  exact Ev.pos (by first | rfl | trivial) (Ev.now _)
theorem clampV_top {lo hi x : Int} (h : lo ≤ hi) (hx : hi ≤ x) : clampV lo hi x = hi := by
  rw [clampV_eq h]
  split
  · omega
  · split <;> omega
/-- The last one of what is turned is the first one; in its place another one that is clamped to the same. -/
theorem turned_far (lo hi : Int) (l : List Int) (far : Int) (h : lo ≤ hi) (hl : 0 < l.length) (h0 : hi ≤ l.getD 0 0) (hf : hi ≤ far) : (l.reverse.set (l.length - 1) far).map (clampV lo hi) = l.reverse.map (clampV lo hi) := by
  apply List.ext_getElem (by simp)
  intro i h1 h2
  simp only [List.length_map, List.length_set, List.length_reverse] at h1 h2
  rw [List.getElem_map, List.getElem_map, List.getElem_set]
  by_cases hi' : l.length - 1 = i
  · rw [if_pos hi', clampV_top h hf, List.getElem_reverse]
    have e : l[l.length - 1 - i]'(by omega) = l.getD 0 0 := by
      simp only [show l.length - 1 - i = 0 by omega]
      simp [List.getD, List.getElem?_eq_getElem hl]
    rw [e, clampV_top h h0]
  · rw [if_neg hi']
theorem order_l0 (lo hi most far : Int) (es l : List Int) (hl : es.length ≤ 9223372036854775806) (h1 : -9223372036854775808 ≤ lo ∧ lo ≤ 9223372036854775807) (h2 : -9223372036854775808 ≤ hi ∧ hi ≤ 9223372036854775807) (hm : l.length ≤ 150) :
    ∀ d : Nat, d ≤ l.length → Ev (fun k => offertorylaw12_TallyOrder.l0 k l far ((l.drop d).reverse) ((d : Int) - 1) lo hi most es) true := by
  intro d
  induction d with
  | zero =>
    intro _
    obtain ⟨n, hn⟩ := bits_some lo hi most es
    have ea := encode_f lo hi most n es l hn hl h1 h2 (by omega)
    have er := encode_f lo hi most n es l.reverse hn hl h1 h2 (by rw [List.length_reverse]; omega)
    rw [List.length_reverse, vec_reverse] at er
    refine Ev.succ ?_
    simp only [offertorylaw12_TallyOrder.l0, List.drop_zero]
    refine Ev.neg (by omega) (Ev.bind ea (Ev.bind er (Ev.bind awake_f (Ev.pos (by first | rfl | trivial) (Ev.pos (by first | rfl | trivial) ?_)))))
    have hcell : ∀ v : List Int, v.length ≤ 1000 → Ev (fun k => offertoryref01_Cells.f k v v) true := fun v hv => cells_f v (by omega)
    by_cases h : soundE lo hi most es = 0
    · obtain ⟨_, _, c, d', _, _, _, e⟩ := sound0 h
      have hb := hn h
      have h40 := hb.le40 d'
      have h01 := hb.1
      simp only [h, if_true]
      by_cases hc : (l.length : Int) > most
      · simp only [hc, if_true]
        refine Ev.bind (hcell [] (by simp)) ?_
        refine Ev.succ ?_
        simp only [offertorylaw12_TallyOrder.j2]
        exact Ev.neg (by decide) (Ev.neg (by decide) (order_j3t _ _ _ _ _ _ _))
      · simp only [hc, if_false]
        refine Ev.bind (hcell _ (by rw [vec_length]; omega)) ?_
        refine Ev.succ ?_
        simp only [offertorylaw12_TallyOrder.j2]
        refine Ev.neg (by decide) (Ev.pos (by first | rfl | trivial) ?_)
        refine Ev.if_ (fun _ => order_j3t _ _ _ _ _ _ _) (fun hne => ?_)
        refine Ev.pos (by omega) (Ev.if_ (fun _ => order_j3t _ _ _ _ _ _ _) (fun hx => ?_))
        by_cases hf : far < hi
        · simp only [decide_eq_true hf]
          exact order_j3t _ _ _ _ _ _ _
        · simp only [decide_eq_false hf]
          have hpos : 0 < l.length := by omega
          have hx0 : hi ≤ l.getD 0 0 := by
            have : rd l 0 = l.getD 0 0 := rd_nat l 0
            omega
          have eset := encode_f lo hi most n es (l.reverse.set (l.length - 1) far) hn hl h1 h2 (by simp; omega)
          rw [List.length_set, List.length_reverse] at eset
          simp only [h, if_true, hc, if_false] at eset
          rw [vec_clamped lo hi es _ _ n.toNat (turned_far lo hi l far c hpos hx0 (by omega)), vec_reverse] at eset
          refine Ev.succ ?_
          simp only [offertorylaw12_TallyOrder.j3]
          rw [List.length_reverse, w64 (by omega), show ((l.length : Int) - 1).toNat = l.length - 1 by omega]
          refine Ev.neg (by decide) (Ev.pos (by omega) (Ev.pos (by omega) (Ev.bind eset (Ev.pos (by first | rfl | trivial) ?_))))
          exact Ev.bind (hcell _ (by rw [vec_length]; omega)) (Ev.now _)
    · simp only [h, if_false]
      refine Ev.bind (hcell [] (by simp)) ?_
      refine Ev.succ ?_
      simp only [offertorylaw12_TallyOrder.j2]
      exact Ev.neg (by decide) (Ev.neg h (order_j3t _ _ _ _ _ _ _))
  | succ d ih =>
    intro hd
    have hlt : d < l.length := by omega
    have eg : rd l ((d : Int)) = l[d] := rd_get l d hlt
    refine Ev.succ ?_
    simp only [offertorylaw12_TallyOrder.l0]
    rw [show ((d + 1 : Nat) : Int) - 1 = (d : Int) by omega]
    refine Ev.pos (by omega) (Ev.pos (by omega) (Ev.pos (by omega) (Ev.pos (by rw [List.length_reverse, List.length_drop]; omega) ?_)))
    rw [eg, w64 (by omega)]
    have := ih (by omega)
    rw [List.drop_eq_getElem_cons hlt, List.reverse_cons] at this
    exact this
theorem order_j0 (lo hi most far : Int) (es l : List Int) (hl : es.length ≤ 9223372036854775806) (h1 : -9223372036854775808 ≤ lo ∧ lo ≤ 9223372036854775807) (h2 : -9223372036854775808 ≤ hi ∧ hi ≤ 9223372036854775807) (hm : l.length ≤ 150) :
    Ev (fun k => offertorylaw12_TallyOrder.j0 k l far lo hi most es) true := by
  refine Ev.succ ?_
  simp only [offertorylaw12_TallyOrder.j0]
  rw [w64 (by omega)]
  have := order_l0 lo hi most far es l hl h1 h2 hm l.length (Nat.le_refl _)
  rw [List.drop_eq_nil_of_le (Nat.le_refl _), List.reverse_nil] at this
  exact this
theorem TallyOrder (a0_0 : Int) (a0_1 : Int) (a0_2 : Int) (l0_3 : List Int) (l1 : List Int) (a2 : Int) (w0_0 : (Lit.int .i64 a0_0).wf = true) (w0_1 : (Lit.int .i64 a0_1).wf = true) (w0_2 : (Lit.int .i64 a0_2).wf = true) (w0_3 : (SliceOk 8 (fun n => (Lit.int .i64 n).wf = true)) l0_3) (ok1 : (SliceOk 8 (fun n => (Lit.int .i64 n).wf = true)) l1) (w2 : (Lit.int .i64 a2).wf = true) : ∃ k, offertorylaw12_TallyOrder.f k a0_0 a0_1 a0_2 l0_3 l1 a2 = some true := by
  have h1 := i64_of w0_0
  have h2 := i64_of w0_1
  have hl : l0_3.length ≤ 9223372036854775806 := by have := w0_3.1; omega
  refine Ev.rounds ?_
  unfold offertorylaw12_TallyOrder.f
  refine Ev.if_ (fun h => ?_) (fun h => ?_)
  · exact Ev.pos (by omega) (order_j0 _ _ _ _ _ _ hl h1 h2 (by rw [List.length_take]; omega))
  · exact order_j0 _ _ _ _ _ _ hl h1 h2 (by omega)
end Go.Proofs.Ythbiijhjcoakfaa.Pure
