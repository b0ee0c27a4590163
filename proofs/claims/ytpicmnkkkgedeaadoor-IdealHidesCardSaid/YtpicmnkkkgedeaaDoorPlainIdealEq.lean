/- Layer 25: lists of lists compared, by the library and by the law. -/
import Derived.Test.YtpicmnkkkgedeaaDoorPAllx16

import Derived.Test.YtpicmnkkkgedeaaDoorBase
namespace Go.Proofs.YtpicmnkkkgedeaaDoor.Plain
open Go.RowKit Go.Proofs.YtpicmnkkkgedeaaDoor.PAll Go.Proofs.YtpicmnkkkgedeaaDoor.Opn Go.Proofs.YtpicmnkkkgedeaaDoor.Base Go.Proofs.YtpicmnkkkgedeaaDoorW.PrintWords Go.Proofs.YtpicmnkkkgedeaaDoorW.PrintLast Go.Proofs.YtpicmnkkkgedeaaDoorW.PrintMore
set_option linter.unusedVariables false
set_option linter.unusedSimpArgs false
theorem drop_eqG {α : Type} (z : α) {a b : List α} {i : Nat} (ha : i < a.length) (hb : i < b.length) : a.drop i = b.drop i ↔ a.getD i z = b.getD i z ∧ a.drop (i + 1) = b.drop (i + 1) := by
  rw [List.drop_eq_getElem_cons ha, List.drop_eq_getElem_cons hb, List.cons.injEq]
  simp only [List.getD, List.getElem?_eq_getElem ha, List.getElem?_eq_getElem hb, Option.getD_some]
/-- A loop that compares two lists, place by place. -/
theorem cmp_loop {α : Type} [DecidableEq α] (z : α) (a b : List α) (hl : a.length = b.length) (hm : a.length ≤ 9223372036854775806) (L : Nat → Int → Option Bool)
    (hstep : ∀ (i : Nat), i < a.length → Ev (fun k => L k ((i + 1 : Nat) : Int)) (decide (a.drop (i + 1) = b.drop (i + 1))) → Ev (fun k => L k (i : Int)) (decide (a.getD i z = b.getD i z) && decide (a.drop (i + 1) = b.drop (i + 1)))) (hend : Ev (fun k => L k (a.length : Int)) true) :
    Ev (fun k => L k 0) (decide (a = b)) := by
  have key : ∀ d i : Nat, i + d = a.length → Ev (fun k => L k (i : Int)) (decide (a.drop i = b.drop i)) := by
    intro d
    induction d with
    | zero =>
      intro i hi
      obtain rfl : i = a.length := by omega
      rw [List.drop_length, hl, List.drop_length, decide_eq_true rfl, ← hl]
      exact hend
    | succ d ih =>
      intro i hi
      have h := hstep i (by omega) (ih (i + 1) (by omega))
      have he := drop_eqG z (a := a) (b := b) (i := i) (by omega) (by omega)
      have e : decide (a.drop i = b.drop i) = (decide (a.getD i z = b.getD i z) && decide (a.drop (i + 1) = b.drop (i + 1))) := by
        by_cases h1 : a.drop i = b.drop i
        · rw [decide_eq_true h1, decide_eq_true (he.1 h1).1, decide_eq_true (he.1 h1).2]
          rfl
        · rw [decide_eq_false h1]
          by_cases h2 : a.getD i z = b.getD i z
          · rw [decide_eq_true h2, decide_eq_false (fun h3 => h1 (he.2 ⟨h2, h3⟩))]
            rfl
          · rw [decide_eq_false h2]
            rfl
      rw [e]
      exact h
  have := key a.length 0 (by omega)
  rwa [List.drop_zero, List.drop_zero] at this
theorem eqI_f (a b : List Int) (hm : a.length ≤ 9223372036854775806) : Ev (fun k => slices_Equal_uint32_uint32.f k a b) (decide (a = b)) := by
  unfold slices_Equal_uint32_uint32.f
  refine Ev.if_ (fun h => ?_) (fun h => Ev.some_ (by rw [decide_eq_false]; intro e; rw [e] at h; exact h rfl))
  refine cmp_loop 0 a b (by omega) hm (fun k i => slices_Equal_uint32_uint32.l0 k a b (a.length : Int) i) (fun i hi ih => ?_) ?_
  · refine Ev.succ ?_
    simp only [slices_Equal_uint32_uint32.l0]
    refine Ev.pos (by omega) (Ev.pos (by omega) (Ev.pos (by omega) (Ev.pos (by omega) ?_)))
    refine Ev.if_ (fun h => ?_) (fun h => Ev.some_ ?_)
    · rw [w64 (by omega), decide_eq_true (show a.getD i 0 = b.getD i 0 from h), Bool.true_and]
      exact ih
    · rw [decide_eq_false (show ¬ a.getD i 0 = b.getD i 0 from h), Bool.false_and]
  · refine Ev.succ ?_
    simp only [slices_Equal_uint32_uint32.l0]
    exact Ev.neg (by omega) (Ev.some_ rfl)
theorem cells_f (a b : List Int) (hm : a.length ≤ 9223372036854775806) : Ev (fun k => offertoryref01_Cells.f k a b) (decide (a = b)) := by
  unfold offertoryref01_Cells.f
  refine Ev.if_ (fun h => ?_) (fun h => Ev.some_ (by rw [decide_eq_false]; intro e; rw [e] at h; exact h rfl))
  refine cmp_loop 0 a b (by omega) hm (fun k i => offertoryref01_Cells.l0 k a b i) (fun i hi ih => ?_) ?_
  · refine Ev.succ ?_
    simp only [offertoryref01_Cells.l0]
    refine Ev.pos (by omega) (Ev.pos (by omega) (Ev.pos (by omega) ?_))
    refine Ev.if_ (fun h => ?_) (fun h => Ev.some_ ?_)
    · rw [w64 (by omega), decide_eq_true (show a.getD i 0 = b.getD i 0 from h), Bool.true_and]
      exact ih
    · rw [decide_eq_false (show ¬ a.getD i 0 = b.getD i 0 from h), Bool.false_and]
  · refine Ev.succ ?_
    simp only [offertoryref01_Cells.l0]
    exact Ev.neg (by omega) (Ev.some_ rfl)
/-- All lists in a list are short. -/
def Sh (l : List (List Int)) : Prop := l.length ≤ 9223372036854775806 ∧ ∀ i : Nat, (l.getD i []).length ≤ 9223372036854775806
def Sh2 (l : List (List (List Int))) : Prop := l.length ≤ 9223372036854775806 ∧ ∀ i : Nat, Sh (l.getD i [])
theorem sh_of {p : Int → Prop} {l : List (List Int)} (h : SliceOk 24 (SliceOk 4 p) l) : Sh l := by
  refine ⟨by have := h.1; omega, fun i => ?_⟩
  by_cases hi : i < l.length
  · have := (h.2.2 _ (List.getElem_mem hi)).1
    simp only [List.getD, List.getElem?_eq_getElem hi, Option.getD_some]
    omega
  · simp [List.getD, List.getElem?_eq_none (Nat.le_of_not_lt hi)]
theorem sh2_of {p : Int → Prop} {l : List (List (List Int))} (h : SliceOk 24 (SliceOk 24 (SliceOk 4 p)) l) : Sh2 l := by
  refine ⟨by have := h.1; omega, fun i => ?_⟩
  by_cases hi : i < l.length
  · have := sh_of (h.2.2 _ (List.getElem_mem hi))
    simp only [List.getD, List.getElem?_eq_getElem hi, Option.getD_some]
    exact this
  · simp only [List.getD, List.getElem?_eq_none (Nat.le_of_not_lt hi), Option.getD_none]
    exact ⟨by simp, fun i => by simp⟩
theorem same_f (a b : List (List Int)) (hm : Sh a) : Ev (fun k => ideal_same.f k a b) (decide (a = b)) := by
  unfold ideal_same.f slices_EqualFunc_uint32_uint32_uint32_uint32_44_f45.f
  refine Ev.bind (g := fun k => if (a.length : Int) = (b.length : Int) then slices_EqualFunc_uint32_uint32_uint32_uint32_44_f45.l0 k b a (a.length : Int) 0 else some false) (a := decide (a = b)) ?_ (Ev.now _)
  refine Ev.if_ (fun h => ?_) (fun h => Ev.some_ (by rw [decide_eq_false]; intro e; rw [e] at h; exact h rfl))
  have hl := hm.1
  refine cmp_loop [] a b (by omega) hl (fun k i => slices_EqualFunc_uint32_uint32_uint32_uint32_44_f45.l0 k b a (a.length : Int) i) (fun i hi ih => ?_) ?_
  · refine Ev.succ ?_
    simp only [slices_EqualFunc_uint32_uint32_uint32_uint32_44_f45.l0]
    refine Ev.pos (by omega) (Ev.pos (by omega) (Ev.pos (by omega) (Ev.pos (by omega) (Ev.bind (eqI_f (a.getD i []) (b.getD i []) (hm.2 i)) ?_))))
    refine Ev.if_ (fun h => ?_) (fun h => Ev.some_ ?_)
    · rw [w64 (by omega), h, Bool.true_and]
      exact ih
    · rw [Bool.eq_false_iff.2 h, Bool.false_and]
  · refine Ev.succ ?_
    simp only [slices_EqualFunc_uint32_uint32_uint32_uint32_44_f45.l0]
    exact Ev.neg (by omega) (Ev.some_ rfl)
theorem same3_f (a b : List (List (List Int))) (hm : Sh2 a) : Ev (fun k => slices_EqualFunc_uint32_uint32_uint32_uint32_32_f31.f k a b 0) (decide (a = b)) := by
  unfold slices_EqualFunc_uint32_uint32_uint32_uint32_32_f31.f
  refine Ev.if_ (fun h => ?_) (fun h => Ev.some_ (by rw [decide_eq_false]; intro e; rw [e] at h; exact h rfl))
  have hl := hm.1
  refine cmp_loop [] a b (by omega) hl (fun k i => slices_EqualFunc_uint32_uint32_uint32_uint32_32_f31.l0 k b a (a.length : Int) i) (fun i hi ih => ?_) ?_
  · refine Ev.succ ?_
    simp only [slices_EqualFunc_uint32_uint32_uint32_uint32_32_f31.l0]
    refine Ev.pos (by omega) (Ev.pos (by omega) (Ev.pos (by omega) (Ev.pos (by omega) (Ev.bind (same_f (a.getD i []) (b.getD i []) (hm.2 i)) ?_))))
    refine Ev.if_ (fun h => ?_) (fun h => Ev.some_ ?_)
    · rw [w64 (by omega), h, Bool.true_and]
      exact ih
    · rw [Bool.eq_false_iff.2 h, Bool.false_and]
  · refine Ev.succ ?_
    simp only [slices_EqualFunc_uint32_uint32_uint32_uint32_32_f31.l0]
    exact Ev.neg (by omega) (Ev.some_ rfl)
theorem alikeP_f (a0 : List (List Int)) (a1 : List (List (List Int))) (b0 : List (List Int)) (b1 : List (List (List Int))) (h0 : Sh a0) (h1 : Sh2 a1) : Ev (fun k => ideal_Alike.f k a0 a1 b0 b1) (decide (a0 = b0) && decide (a1 = b1)) := by
  unfold ideal_Alike.f
  refine Ev.bind (same_f a0 b0 h0) (Ev.if_ (fun h => ?_) (fun h => Ev.some_ ?_))
  · rw [h, Bool.true_and]
    exact Ev.bind (same3_f a1 b1 h1) (Ev.now _)
  · rw [Bool.eq_false_iff.2 h, Bool.false_and]
theorem sameP_f (a0 a1 : List (List Int)) (a2 : List (List (List Int))) (b0 b1 : List (List Int)) (b2 : List (List (List Int))) (h0 : Sh a0) (h1 : Sh a1) (h2 : Sh2 a2) : Ev (fun k => ideal_Same.f k a0 a1 a2 b0 b1 b2) (decide (a0 = b0) && (decide (a1 = b1) && decide (a2 = b2))) := by
  unfold ideal_Same.f
  refine Ev.bind (same_f a0 b0 h0) (Ev.if_ (fun h => ?_) (fun h => Ev.some_ ?_))
  · rw [h, Bool.true_and]
    refine Ev.bind (same_f a1 b1 h1) (Ev.if_ (fun h => ?_) (fun h => Ev.some_ ?_))
    · rw [h, Bool.true_and]
      exact Ev.bind (same3_f a2 b2 h2) (Ev.now _)
    · rw [Bool.eq_false_iff.2 h, Bool.false_and]
  · rw [Bool.eq_false_iff.2 h, Bool.false_and]
theorem vectors_f (a b : List (List Int)) (hm : Sh a) : Ev (fun k => offertorylaw25_vectors.f k a b) (decide (a = b)) := by
  unfold offertorylaw25_vectors.f
  refine Ev.if_ (fun h => ?_) (fun h => Ev.some_ (by rw [decide_eq_false]; intro e; rw [e] at h; exact h rfl))
  have hl := hm.1
  refine cmp_loop [] a b (by omega) hl (fun k i => offertorylaw25_vectors.l0 k a b i) (fun i hi ih => ?_) ?_
  · refine Ev.succ ?_
    simp only [offertorylaw25_vectors.l0]
    refine Ev.pos (by omega) (Ev.pos (by omega) (Ev.pos (by omega) (Ev.bind (cells_f (a.getD i []) (b.getD i []) (hm.2 i)) ?_)))
    refine Ev.if_ (fun h => ?_) (fun h => Ev.some_ ?_)
    · rw [w64 (by omega), h, Bool.true_and]
      exact ih
    · rw [Bool.eq_false_iff.2 h, Bool.false_and]
  · refine Ev.succ ?_
    simp only [offertorylaw25_vectors.l0]
    exact Ev.neg (by omega) (Ev.some_ rfl)
theorem alike_f (a0 : List (List Int)) (a1 : List (List (List Int))) (b0 : List (List Int)) (b1 : List (List (List Int))) (h0 : Sh a0) (h1 : Sh2 a1) : Ev (fun k => offertorylaw25_alike.f k a0 a1 b0 b1) (decide (a0 = b0) && decide (a1 = b1)) := by
  unfold offertorylaw25_alike.f
  refine Ev.bind (vectors_f a0 b0 h0) (Ev.if_ (fun h => ?_) (fun h => ?_))
  · rw [h, Bool.true_and]
    refine Ev.succ ?_
    simp only [offertorylaw25_alike.j0]
    refine Ev.if_ (fun h => Ev.some_ ?_) (fun h => ?_)
    · rw [decide_eq_false]
      intro e
      rw [e] at h
      simp at h
    · have hl := h1.1
      have he : a1.length = b1.length := by
        have := Bool.eq_false_iff.2 h
        have := bne_eq_false_iff_eq.1 this
        omega
      refine cmp_loop [] a1 b1 he hl (fun k i => offertorylaw25_alike.l0 k i a0 a1 b0 b1) (fun i hi ih => ?_) ?_
      · refine Ev.succ ?_
        simp only [offertorylaw25_alike.l0]
        refine Ev.pos (by omega) (Ev.pos (by omega) (Ev.pos (by omega) (Ev.bind (vectors_f (a1.getD i []) (b1.getD i []) (h1.2 i)) ?_)))
        refine Ev.if_ (fun h => ?_) (fun h => Ev.some_ ?_)
        · rw [w64 (by omega), h, Bool.true_and]
          exact ih
        · rw [Bool.eq_false_iff.2 h, Bool.false_and]
      · refine Ev.succ ?_
        simp only [offertorylaw25_alike.l0]
        exact Ev.neg (by omega) (Ev.some_ rfl)
  · rw [Bool.eq_false_iff.2 h, Bool.false_and]
    refine Ev.succ ?_
    simp only [offertorylaw25_alike.j0]
    exact Ev.pos trivial (Ev.some_ rfl)
end Go.Proofs.YtpicmnkkkgedeaaDoor.Plain
