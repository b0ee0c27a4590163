/- Sums and differences of vectors modulo 2^32, number by number. -/
import Derived.Test.YtpicmnkkkgedeaaDoorBase
import Derived.Test.YtpicmnkkkgedeaaDoorPAllx15

namespace Go.Proofs.YtpicmnkkkgedeaaDoor.Plain
open Go.RowKit Go.Proofs.YtpicmnkkkgedeaaDoor.PAll Go.Proofs.YtpicmnkkkgedeaaDoor.Opn Go.Proofs.YtpicmnkkkgedeaaDoor.Base Go.Proofs.YtpicmnkkkgedeaaDoorW.PrintWords Go.Proofs.YtpicmnkkkgedeaaDoorW.PrintLast Go.Proofs.YtpicmnkkkgedeaaDoorW.PrintMore
set_option linter.unusedVariables false
set_option linter.unusedSimpArgs false

def Small (l : List Int) : Prop := ∀ j, 0 ≤ l.getD j 0 ∧ l.getD j 0 ≤ 4294967295
theorem small_of {l : List Int} (h : SliceOk 4 (fun n => (Lit.int .u32 n).wf = true) l) : Small l := by
  intro j
  by_cases hj : j < l.length
  · have := u32_of (h.2.2 (l[j]) (List.getElem_mem hj))
    rw [List.getD_eq_getElem?_getD, List.getElem?_eq_getElem hj]
    exact this
  · rw [List.getD_eq_getElem?_getD, List.getElem?_eq_none (by omega)]
    simp
theorem len_of {l : List Int} (h : SliceOk 4 (fun n => (Lit.int .u32 n).wf = true) l) : l.length ≤ 35184372087808 := by
  have := h.1; omega
theorem ext_getD {a b : List Int} (hl : a.length = b.length) (h : ∀ j, j < a.length → a.getD j 0 = b.getD j 0) : a = b := by
  refine List.ext_getElem hl (fun i h1 h2 => ?_)
  have := h i h1
  rw [List.getD_eq_getElem?_getD, List.getD_eq_getElem?_getD, List.getElem?_eq_getElem h1, List.getElem?_eq_getElem h2] at this
  exact this
theorem zip_getD (op : Int → Int → Int) (a b : List Int) (j : Nat) (h1 : j < a.length) (h2 : j < b.length) : (List.zipWith op a b).getD j 0 = op (a.getD j 0) (b.getD j 0) := by
  simp [List.getD_eq_getElem?_getD, List.getElem?_zipWith, List.getElem?_eq_getElem h1, List.getElem?_eq_getElem h2]
theorem set_getD (c : List Int) (i j : Nat) (v : Int) (hi : i < c.length) : (c.set i v).getD j 0 = if i = j then v else c.getD j 0 := by
  by_cases e : i = j
  · subst e; simp [List.getD_eq_getElem?_getD, hi]
  · simp [List.getD_eq_getElem?_getD, e]
def addL (a b : List Int) : List Int := List.zipWith (fun x y => (x + y) % 4294967296) a b
def subL (a b : List Int) : List Int := List.zipWith (fun x y => (x - y) % 4294967296) a b
theorem addL_length {a b : List Int} (h : a.length = b.length) : (addL a b).length = a.length := by simp [addL]; omega
theorem subL_length {a b : List Int} (h : a.length = b.length) : (subL a b).length = a.length := by simp [subL]; omega
theorem addL_get {a b : List Int} (h : a.length = b.length) (j : Nat) (hj : j < a.length) : (addL a b).getD j 0 = (a.getD j 0 + b.getD j 0) % 4294967296 := zip_getD _ a b j hj (by omega)
theorem subL_get {a b : List Int} (h : a.length = b.length) (j : Nat) (hj : j < a.length) : (subL a b).getD j 0 = (a.getD j 0 - b.getD j 0) % 4294967296 := zip_getD _ a b j hj (by omega)

theorem each42_l0 (a b : List Int) (hl : a.length = b.length) (hn : a.length ≤ 35184372088831) : ∀ (d i : Nat) (c : List Int), a.length - i = d → i ≤ a.length → c.length = a.length → (∀ j, j < i → c.getD j 0 = (a.getD j 0 + b.getD j 0) % 4294967296) → Ev (fun k => ring_each_f42.l0 k a b c (a.length : Int) (i : Int)) (addL a b, 0)
  | d, i, c, hd, hi, hc, hin => by
    refine Ev.succ ?_
    simp only [ring_each_f42.l0, rd_nat, ring_cell_plus.f, Option.bind_some, Int.toNat_natCast]
    by_cases h : i < a.length
    · refine Ev.pos (by omega) (Ev.pos (by omega) (Ev.pos (by omega) (Ev.pos (by omega) (Ev.pos (by omega) ?_))))
      rw [w64 (by omega)]
      refine each42_l0 a b hl hn (d - 1) (i + 1) (c.set i ((a.getD i 0 + b.getD i 0) % 4294967296)) (by omega) (by omega) (by simpa using hc) ?_
      intro j hj
      rw [set_getD c i j _ (by omega)]
      split
      · rename_i e; subst e; rfl
      · exact hin j (by omega)
    · refine Ev.neg (by omega) (Ev.some_ ?_)
      rw [show c = addL a b from ext_getD (by rw [addL_length hl]; exact hc) (fun j hj => by rw [hin j (by omega), addL_get hl j (by omega)])]
  termination_by d _ _ => d
  decreasing_by all_goals omega
theorem each41_l0 (a b : List Int) (hl : a.length = b.length) (hn : a.length ≤ 35184372088831) : ∀ (d i : Nat) (c : List Int), a.length - i = d → i ≤ a.length → c.length = a.length → (∀ j, j < i → c.getD j 0 = (a.getD j 0 - b.getD j 0) % 4294967296) → Ev (fun k => ring_each_f41.l0 k a b c (a.length : Int) (i : Int)) (subL a b, 0)
  | d, i, c, hd, hi, hc, hin => by
    refine Ev.succ ?_
    simp only [ring_each_f41.l0, rd_nat, ring_cell_minus.f, Option.bind_some, Int.toNat_natCast]
    by_cases h : i < a.length
    · refine Ev.pos (by omega) (Ev.pos (by omega) (Ev.pos (by omega) (Ev.pos (by omega) (Ev.pos (by omega) ?_))))
      rw [w64 (by omega)]
      refine each41_l0 a b hl hn (d - 1) (i + 1) (c.set i ((a.getD i 0 - b.getD i 0) % 4294967296)) (by omega) (by omega) (by simpa using hc) ?_
      intro j hj
      rw [set_getD c i j _ (by omega)]
      split
      · rename_i e; subst e; rfl
      · exact hin j (by omega)
    · refine Ev.neg (by omega) (Ev.some_ ?_)
      rw [show c = subL a b from ext_getD (by rw [subL_length hl]; exact hc) (fun j hj => by rw [hin j (by omega), subL_get hl j (by omega)])]
  termination_by d _ _ => d
  decreasing_by all_goals omega
theorem each42_f (a b : List Int) (hl : a.length = b.length) (hn : a.length ≤ 35184372088831) : Ev (fun k => ring_each_f42.f k 0 a b) (addL a b, 0) := by
  unfold ring_each_f42.f
  refine Ev.pos (by omega) (Ev.pos (by omega) (Ev.pos (by omega) ?_))
  simp only [Option.bind_some, List.length_replicate, Int.toNat_natCast]
  exact each42_l0 a b hl hn _ 0 (List.replicate a.length 0) rfl (Nat.zero_le _) (by simp) (fun j hj => absurd hj (by omega))
theorem each41_f (a b : List Int) (hl : a.length = b.length) (hn : a.length ≤ 35184372088831) : Ev (fun k => ring_each_f41.f k 0 a b) (subL a b, 0) := by
  unfold ring_each_f41.f
  refine Ev.pos (by omega) (Ev.pos (by omega) (Ev.pos (by omega) ?_))
  simp only [Option.bind_some, List.length_replicate, Int.toNat_natCast]
  exact each41_l0 a b hl hn _ 0 (List.replicate a.length 0) rfl (Nat.zero_le _) (by simp) (fun j hj => absurd hj (by omega))
theorem add_f (a b : List Int) (hl : a.length = b.length) (hn : a.length ≤ 35184372088831) : Ev (fun k => ring_Add.f k a b) (addL a b, 0) := by
  unfold ring_Add.f
  exact Ev.bind (each42_f a b hl hn) (Ev.some_ rfl)
theorem sub_f (a b : List Int) (hl : a.length = b.length) (hn : a.length ≤ 35184372088831) : Ev (fun k => ring_Sub.f k a b) (subL a b, 0) := by
  unfold ring_Sub.f
  exact Ev.bind (each41_f a b hl hn) (Ev.some_ rfl)
theorem add_no (a b : List Int) (hl : ¬ a.length = b.length) : Ev (fun k => ring_Add.f k a b) ([], 1) := by
  unfold ring_Add.f ring_each_f42.f
  exact Ev.bind (Ev.neg (by omega) (Ev.some_ rfl)) (Ev.some_ rfl)
theorem sub_no (a b : List Int) (hl : ¬ a.length = b.length) : Ev (fun k => ring_Sub.f k a b) ([], 1) := by
  unfold ring_Sub.f ring_each_f41.f
  exact Ev.bind (Ev.neg (by omega) (Ev.some_ rfl)) (Ev.some_ rfl)
end Go.Proofs.YtpicmnkkkgedeaaDoor.Plain
