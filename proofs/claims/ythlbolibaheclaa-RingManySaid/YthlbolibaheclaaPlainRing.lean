/- Sums and differences of vectors modulo 2^32, number by number. -/
import Derived.Test.YthlbolibaheclaaBase
import Derived.Test.YthlbolibaheclaaPAllx
namespace Go.Proofs.Ythlbolibaheclaa.Plain
open Go.RowKit Go.Proofs.Ythlbolibaheclaa.PAll Go.Proofs.Ythlbolibaheclaa.Opn Go.Proofs.Ythlbolibaheclaa.Base Go.Proofs.YthlbolibaheclaaW.PrintWords Go.Proofs.YthlbolibaheclaaW.PrintLast Go.Proofs.YthlbolibaheclaaW.PrintMore
set_option linter.unusedVariables false
set_option linter.unusedSimpArgs false

def Small (l : List Int) : Prop := ∀ j, 0 ≤ l.getD j 0 ∧ l.getD j 0 ≤ 4294967295
theorem small_of {l : List Int} (h : SliceOk 4 (fun n => (Lit.int .u32 n).wf = true) l) : Small l := by
  intro j
  by_cases hj : j < l.length
  · have := u32_of (h.2.2 (l[j]) (List.getElem_mem hj))
    rw [List.getD_eq_getElem?_getD, List.getElem?_eq_getElem hj]
    exact this
  · rw [List.getD_eq_getElem?_getD, List.getElem?_eq_none (by omega)]
    simp
theorem len_of {l : List Int} (h : SliceOk 4 (fun n => (Lit.int .u32 n).wf = true) l) : l.length ≤ 35184372087808 := by
  have := h.1; omega
theorem ext_getD {a b : List Int} (hl : a.length = b.length) (h : ∀ j, j < a.length → a.getD j 0 = b.getD j 0) : a = b := by
  refine List.ext_getElem hl (fun i h1 h2 => ?_)
  have := h i h1
  rw [List.getD_eq_getElem?_getD, List.getD_eq_getElem?_getD, List.getElem?_eq_getElem h1, List.getElem?_eq_getElem h2] at this
  exact this
theorem zip_getD (op : Int → Int → Int) (a b : List Int) (j : Nat) (h1 : j < a.length) (h2 : j < b.length) : (List.zipWith op a b).getD j 0 = op (a.getD j 0) (b.getD j 0) := by
  simp [List.getD_eq_getElem?_getD, List.getElem?_zipWith, List.getElem?_eq_getElem h1, List.getElem?_eq_getElem h2]
theorem set_getD (c : List Int) (i j : Nat) (v : Int) (hi : i < c.length) : (c.set i v).getD j 0 = if i = j then v else c.getD j 0 := by
  by_cases e : i = j
  · subst e; simp [List.getD_eq_getElem?_getD, hi]
  · simp [List.getD_eq_getElem?_getD, e]
def addL (a b : List Int) : List Int := List.zipWith (fun x y => (x + y) % 4294967296) a b
def subL (a b : List Int) : List Int := List.zipWith (fun x y => (x - y) % 4294967296) a b
theorem addL_length {a b : List Int} (h : a.length = b.length) : (addL a b).length = a.length := by simp [addL]; omega
theorem subL_length {a b : List Int} (h : a.length = b.length) : (subL a b).length = a.length := by simp [subL]; omega
theorem addL_get {a b : List Int} (h : a.length = b.length) (j : Nat) (hj : j < a.length) : (addL a b).getD j 0 = (a.getD j 0 + b.getD j 0) % 4294967296 := zip_getD _ a b j hj (by omega)
theorem subL_get {a b : List Int} (h : a.length = b.length) (j : Nat) (hj : j < a.length) : (subL a b).getD j 0 = (a.getD j 0 - b.getD j 0) % 4294967296 := zip_getD _ a b j hj (by omega)

theorem each14_l0 (a b : List Int) (hl : a.length = b.length) (hn : a.length ≤ 35184372088831) : ∀ (d i : Nat) (c : List Int), a.length - i = d → i ≤ a.length → c.length = a.length → (∀ j, j < i → c.getD j 0 = (a.getD j 0 + b.getD j 0) % 4294967296) → Ev (fun k => ring_each_f14.l0 k a b c (a.length : Int) (i : Int)) (addL a b, 0)
  | d, i, c, hd, hi, hc, hin => by
    refine Ev.succ ?_
    simp only [ring_each_f14.l0, rd_nat, ring_cell_plus.f, Option.bind_some, Int.toNat_natCast]
    by_cases h : i < a.length
    · refine Ev.pos (by omega) (Ev.pos (by omega) (Ev.pos (by omega) (Ev.pos (by omega) (Ev.pos (by omega) ?_))))
      rw [w64 (by omega)]
      refine each14_l0 a b hl hn (d - 1) (i + 1) (c.set i ((a.getD i 0 + b.getD i 0) % 4294967296)) (by omega) (by omega) (by simpa using hc) ?_
      intro j hj
      rw [set_getD c i j _ (by omega)]
      split
      · rename_i e; subst e; rfl
      · exact hin j (by omega)
    · refine Ev.neg (by omega) (Ev.some_ ?_)
      rw [show c = addL a b from ext_getD (by rw [addL_length hl]; exact hc) (fun j hj => by rw [hin j (by omega), addL_get hl j (by omega)])]
  termination_by d _ _ => d
  decreasing_by all_goals omega
theorem each15_l0 (a b : List Int) (hl : a.length = b.length) (hn : a.length ≤ 35184372088831) : ∀ (d i : Nat) (c : List Int), a.length - i = d → i ≤ a.length → c.length = a.length → (∀ j, j < i → c.getD j 0 = (a.getD j 0 - b.getD j 0) % 4294967296) → Ev (fun k => ring_each_f15.l0 k a b c (a.length : Int) (i : Int)) (subL a b, 0)
  | d, i, c, hd, hi, hc, hin => by
    refine Ev.succ ?_
    simp only [ring_each_f15.l0, rd_nat, ring_cell_minus.f, Option.bind_some, Int.toNat_natCast]
    by_cases h : i < a.length
    · refine Ev.pos (by omega) (Ev.pos (by omega) (Ev.pos (by omega) (Ev.pos (by omega) (Ev.pos (by omega) ?_))))
      rw [w64 (by omega)]
      refine each15_l0 a b hl hn (d - 1) (i + 1) (c.set i ((a.getD i 0 - b.getD i 0) % 4294967296)) (by omega) (by omega) (by simpa using hc) ?_
      intro j hj
      rw [set_getD c i j _ (by omega)]
      split
      · rename_i e; subst e; rfl
      · exact hin j (by omega)
    · refine Ev.neg (by omega) (Ev.some_ ?_)
      rw [show c = subL a b from ext_getD (by rw [subL_length hl]; exact hc) (fun j hj => by rw [hin j (by omega), subL_get hl j (by omega)])]
  termination_by d _ _ => d
  decreasing_by all_goals omega
theorem each14_f (a b : List Int) (hl : a.length = b.length) (hn : a.length ≤ 35184372088831) : Ev (fun k => ring_each_f14.f k 0 a b) (addL a b, 0) := by
  unfold ring_each_f14.f
  refine Ev.pos (by omega) (Ev.pos (by omega) (Ev.pos (by omega) ?_))
  simp only [Option.bind_some, List.length_replicate, Int.toNat_natCast]
  exact each14_l0 a b hl hn _ 0 (List.replicate a.length 0) rfl (Nat.zero_le _) (by simp) (fun j hj => absurd hj (by omega))
theorem each15_f (a b : List Int) (hl : a.length = b.length) (hn : a.length ≤ 35184372088831) : Ev (fun k => ring_each_f15.f k 0 a b) (subL a b, 0) := by
  unfold ring_each_f15.f
  refine Ev.pos (by omega) (Ev.pos (by omega) (Ev.pos (by omega) ?_))
  simp only [Option.bind_some, List.length_replicate, Int.toNat_natCast]
  exact each15_l0 a b hl hn _ 0 (List.replicate a.length 0) rfl (Nat.zero_le _) (by simp) (fun j hj => absurd hj (by omega))
theorem add_f (a b : List Int) (hl : a.length = b.length) (hn : a.length ≤ 35184372088831) : Ev (fun k => ring_Add.f k a b) (addL a b, 0) := by
  unfold ring_Add.f
  exact Ev.bind (each14_f a b hl hn) (Ev.some_ rfl)
theorem sub_f (a b : List Int) (hl : a.length = b.length) (hn : a.length ≤ 35184372088831) : Ev (fun k => ring_Sub.f k a b) (subL a b, 0) := by
  unfold ring_Sub.f
  exact Ev.bind (each15_f a b hl hn) (Ev.some_ rfl)
theorem add_no (a b : List Int) (hl : ¬ a.length = b.length) : Ev (fun k => ring_Add.f k a b) ([], 1) := by
  unfold ring_Add.f ring_each_f14.f
  exact Ev.bind (Ev.neg (by omega) (Ev.some_ rfl)) (Ev.some_ rfl)
theorem sub_no (a b : List Int) (hl : ¬ a.length = b.length) : Ev (fun k => ring_Sub.f k a b) ([], 1) := by
  unfold ring_Sub.f ring_each_f15.f
  exact Ev.bind (Ev.neg (by omega) (Ev.some_ rfl)) (Ev.some_ rfl)
def negL (a : List Int) : List Int := subL (List.replicate a.length 0) a
theorem neg_f (a : List Int) (hn : a.length ≤ 35184372088831) : Ev (fun k => ring_Neg.f k a) (negL a) := by
  unfold ring_Neg.f
  refine Ev.pos (by omega) (Ev.pos (by omega) ?_)
  simp only [Int.toNat_natCast]
  exact Ev.bind (each15_f (List.replicate a.length 0) a (by simp) (by simpa using hn)) (Ev.some_ rfl)
theorem negL_length (a : List Int) : (negL a).length = a.length := by unfold negL; rw [subL_length (by simp)]; simp
theorem negL_get (a : List Int) (j : Nat) (hj : j < a.length) : (negL a).getD j 0 = (0 - a.getD j 0) % 4294967296 := by
  unfold negL
  rw [subL_get (by simp) j (by simpa using hj)]
  simp [List.getD_eq_getElem?_getD, hj]
theorem cells_l0 (a b : List Int) (hl : a.length = b.length) (hm : a.length ≤ 9223372036854775806) : ∀ d i : Nat, a.length - i = d → i ≤ a.length → Ev (fun k => offertoryref01_Cells.l0 k a b (i : Int)) (decide (a.drop i = b.drop i))
  | d, i, hd, hi => by
    refine Ev.succ ?_
    simp only [offertoryref01_Cells.l0, rd_nat]
    by_cases h : i < a.length
    · refine Ev.pos (by omega) (Ev.pos (by omega) (Ev.pos (by omega) ?_))
      have ha : a.getD i 0 = a[i] := by rw [List.getD_eq_getElem?_getD, List.getElem?_eq_getElem h]; rfl
      have h' : i < b.length := by omega
      have hb : b.getD i 0 = b[i] := by rw [List.getD_eq_getElem?_getD, List.getElem?_eq_getElem h']; rfl
      rw [List.drop_eq_getElem_cons h, List.drop_eq_getElem_cons h', ← ha, ← hb]
      refine Ev.if_ (fun hc => ?_) (fun hc => ?_)
      · rw [w64 (by omega)]
        have := cells_l0 a b hl hm (d - 1) (i + 1) (by omega) (by omega)
        simp only [hc, List.cons.injEq, true_and]
        exact this
      · refine Ev.some_ ?_
        rw [decide_eq_false]
        intro e
        exact hc (List.cons.inj e).1
    · refine Ev.neg (by omega) (Ev.some_ ?_)
      rw [List.drop_eq_nil_of_le (by omega), List.drop_eq_nil_of_le (by omega)]
      rfl
  termination_by d _ => d
  decreasing_by all_goals omega
/-- A list and itself. -/
theorem cells_f (a b : List Int) (e : a = b) (hm : a.length ≤ 9223372036854775806) : Ev (fun k => offertoryref01_Cells.f k a b) true := by
  subst e
  unfold offertoryref01_Cells.f
  refine Ev.pos rfl ?_
  have := cells_l0 a a rfl hm _ 0 rfl (Nat.zero_le _)
  simpa using this
end Go.Proofs.Ythlbolibaheclaa.Plain
