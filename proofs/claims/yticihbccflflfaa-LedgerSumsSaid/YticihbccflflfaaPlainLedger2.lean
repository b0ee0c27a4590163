/- What two stats come to together, and the first without the second, in plain numbers. -/
import Derived.Test.YticihbccflflfaaPlainLedgerBase2
namespace Go.Proofs.Yticihbccflflfaa.Plain
open Go.RowKit Go.Proofs.Yticihbccflflfaa.PAll Go.Proofs.Yticihbccflflfaa.Opn Go.Proofs.Yticihbccflflfaa.Base Go.Proofs.YticihbccflflfaaW.PrintWords Go.Proofs.YticihbccflflfaaW.PrintLast Go.Proofs.YticihbccflflfaaW.PrintMore
set_option linter.unusedVariables false
set_option linter.unusedSimpArgs false
/-- May a number be? May all of them be? -/
def okC (n : Int) : Bool := decide (0 ≤ n) && decide (n ≤ 4611686018427387904)
def rightB (l : List Int) (c : Int) : Bool := okC c && l.all okC
theorem okC_iff (n : Int) : okC n = true ↔ 0 ≤ n ∧ n ≤ 4611686018427387904 := by simp [okC]
theorem count_ok (n : Int) : ledger_count.f n = some (okC n) := by
  unfold ledger_count.f okC
  by_cases h : n ≥ 0
  · rw [if_pos h, decide_eq_true (show 0 ≤ n from h)]; rfl
  · rw [if_neg h, decide_eq_false (show ¬ 0 ≤ n from h)]; rfl
theorem right1_ok (n : Int) : ledger_entry_right_1.f n = some (!okC n) := by
  unfold ledger_entry_right_1.f
  rw [count_ok]; rfl
theorem index_l0 (l : List Int) (hm : l.length ≤ 9223372036854775806) : ∀ d i : Nat, i + d = l.length → ∃ t : Int, (t ≥ 0 ↔ (l.drop i).all okC = false) ∧ Ev (fun k => slices_IndexFunc_int_int_f37.l0 k l (l.length : Int) (i : Int)) t := by
  intro d
  induction d with
  | zero =>
    intro i hi
    refine ⟨-1, ?_, Ev.succ ?_⟩
    · rw [List.drop_eq_nil_of_le (by omega)]; simp
    · simp only [slices_IndexFunc_int_int_f37.l0]
      exact Ev.neg (by omega) (Ev.some_ rfl)
  | succ d ih =>
    intro i hi
    obtain ⟨t, ht, hE⟩ := ih (i + 1) (by omega)
    have hlt : i < l.length := by omega
    have eg : l.getD i 0 = l[i] := by simp [List.getD, List.getElem?_eq_getElem hlt]
    have ed := List.drop_eq_getElem_cons hlt
    cases ho : okC l[i]
    · refine ⟨(i : Int), ?_, Ev.succ ?_⟩
      · rw [ed, List.all_cons, ho]; simp
      · simp only [slices_IndexFunc_int_int_f37.l0, rd_nat]
        rw [eg]
        refine Ev.pos (by omega) (Ev.pos (by omega) (Ev.pos (by omega) (Ev.bind0 (right1_ok _) ?_)))
        rw [ho]
        exact Ev.pos rfl (Ev.some_ rfl)
    · refine ⟨t, ?_, Ev.succ ?_⟩
      · rw [ed, List.all_cons, ho, Bool.true_and]; exact ht
      · simp only [slices_IndexFunc_int_int_f37.l0, rd_nat]
        rw [eg]
        refine Ev.pos (by omega) (Ev.pos (by omega) (Ev.pos (by omega) (Ev.bind0 (right1_ok _) ?_)))
        rw [ho, w64 (by omega)]
        exact Ev.neg (by decide) hE
theorem right_f (l : List Int) (c a b d e : Int) (f : Bool) (hm : l.length ≤ 9223372036854775806) : Ev (fun k => ledger_entry_right.f k l c a b d e f) (rightB l c) := by
  unfold ledger_entry_right.f
  refine Ev.bind0 (count_ok c) ?_
  unfold rightB
  cases hc : okC c
  · exact Ev.neg (by decide) (Ev.some_ rfl)
  · refine Ev.pos rfl ?_
    obtain ⟨t, ht, hE⟩ := index_l0 l hm l.length 0 (by omega)
    rw [List.drop_zero] at ht
    unfold slices_ContainsFunc_int_int_f37.f slices_IndexFunc_int_int_f37.f
    refine Ev.bind (Ev.bind hE (Ev.now _)) (Ev.some_ ?_)
    rw [Bool.true_and]
    cases ha : l.all okC
    · rw [decide_eq_true (ht.2 ha)]; rfl
    · rw [decide_eq_false (fun h => by rw [ht.1 h] at ha; cases ha)]; rfl
/-- A sum with its sign. -/
def sgn (b : Bool) (u : Int) : Int := if b = true then -u else u
theorem sum_ok (l : List Int) (c u d e : Int) (b : Bool) : ledger_entry_sum.f l c (wd u).1 (wd u).2 d e b = some (wd (sgn b u)) := by
  unfold ledger_entry_sum.f sgn
  cases b
  · rfl
  · rw [if_pos rfl, neg_w, if_pos rfl]; rfl
theorem top_neg (u : Int) : ((wd u).1 / 9223372036854775808 = 1) ↔ negB u = true := by
  unfold negB
  rw [decide_eq_true_eq]
  simp only [wd]
  omega
theorem sub_w (u v : Int) : wide_Sub.f (wd u).1 (wd u).2 (wd v).1 (wd v).2 = some (wd (u - v)) := by
  rw [wSub_f (wd_in u).1 (wd_in u).2 (wd_in v).1 (wd_in v).2, wv_wd, wv_wd]
  congr 1
  exact wd_mod (by omega)
def zipO (op : Int → Int → Int) (a b : List Int) : List Int := List.zipWith op a b
def wayV (op : Int → Int → Int) (og : Int → Int → Int) (l1 : List Int) (c1 u1 q1 : Int) (b1 : Bool) (l2 : List Int) (c2 u2 q2 : Int) (b2 : Bool) : List Int × Int × Int × Int × Int × Int × Bool × Int :=
  if l1.length = l2.length then (if (rightB l1 c1 && rightB l2 c2) = true then (if rightB (zipO op l1 l2) (op c1 c2) = true then
    (zipO op l1 l2, op c1 c2, (resS (og (sgn b1 u1) (sgn b2 u2))).1, (resS (og (sgn b1 u1) (sgn b2 u2))).2.1, (wd (og q1 q2)).1, (wd (og q1 q2)).2, (resS (og (sgn b1 u1) (sgn b2 u2))).2.2, 0)
    else ([], 0, 0, 0, 0, 0, false, 4)) else ([], 0, 0, 0, 0, 0, false, 4)) else ([], 0, 0, 0, 0, 0, false, 1)
def opA (a b : Int) : Int := wrap64 (a + b)
def opS (a b : Int) : Int := wrap64 (a - b)
theorem opA_f (a b : Int) : ledger_plus.f a b = some (opA a b) := rfl
theorem opS_f (a b : Int) : ledger_minus.f a b = some (opS a b) := rfl
theorem f15_l0 (l1 : List Int) (c1 s1 t1 q1 r1 : Int) (b1 : Bool) (l2 : List Int) (c2 s2 t2 q2 r2 : Int) (b2 : Bool) (c U V W' : Int) (hl : l1.length = l2.length) (hm : l1.length ≤ 17592186044416) : ∀ (d i : Nat) (acc : List Int), i + d = l1.length → acc.length = i →
    Ev (fun k => ledger_way_both_f15.l0 k (l1.length : Int) (i : Int) l1 c1 s1 t1 q1 r1 b1 l2 c2 s2 t2 q2 r2 b2 acc c (wd U).1 (wd U).2 V W' false)
      (if rightB (acc ++ zipO opA (l1.drop i) (l2.drop i)) c = true then (acc ++ zipO opA (l1.drop i) (l2.drop i), c, (resS U).1, (resS U).2.1, V, W', (resS U).2.2, 0) else ([], 0, 0, 0, 0, 0, false, 4)) := by
  intro d
  induction d with
  | zero =>
    intro i acc hi ha
    refine Ev.succ ?_
    simp only [ledger_way_both_f15.l0]
    refine Ev.neg (by omega) ?_
    rw [List.drop_eq_nil_of_le (by omega), List.drop_eq_nil_of_le (by omega)]
    show Ev _ (if rightB (acc ++ []) c = true then (acc ++ [], c, (resS U).1, (resS U).2.1, V, W', (resS U).2.2, 0) else ([], 0, 0, 0, 0, 0, false, 4))
    rw [List.append_nil]
    refine Ev.bind (right_f acc c _ _ _ _ _ (by omega)) ?_
    cases rightB acc c
    · exact Ev.neg (by decide) (Ev.some_ rfl)
    · refine Ev.pos rfl ?_
      rw [if_pos rfl]
      have hT := top_neg U
      unfold resS
      by_cases h : negB U = true
      · refine Ev.pos (hT.2 h) (Ev.bind0 (neg_w U) (Ev.some_ ?_))
        rw [if_pos h, hT.2 h]; rfl
      · refine Ev.neg (fun x => h (hT.1 x)) (Ev.some_ ?_)
        rw [if_neg h, beq_eq_false_iff_ne.2 (fun x => h (hT.1 x))]
  | succ d ih =>
    intro i acc hi ha
    have h1 : i < l1.length := by omega
    have h2 : i < l2.length := by omega
    have e1 : l1.getD i 0 = l1[i] := by simp [List.getD, List.getElem?_eq_getElem h1]
    have e2 : l2.getD i 0 = l2[i] := by simp [List.getD, List.getElem?_eq_getElem h2]
    refine Ev.succ ?_
    simp only [ledger_way_both_f15.l0, rd_nat]
    rw [e1, e2]
    refine Ev.pos (by omega) (Ev.pos (by omega) (Ev.pos (by omega) (Ev.pos (by omega) (Ev.bind0 (opA_f _ _) (Ev.pos (by omega) ?_)))))
    rw [w64 (by omega), List.drop_eq_getElem_cons h1, List.drop_eq_getElem_cons h2]
    have := ih (i + 1) (acc ++ [opA l1[i] l2[i]]) (by omega) (by rw [List.length_append, ha]; rfl)
    rw [List.append_assoc] at this
    exact this
theorem f15_f (l1 : List Int) (c1 u1 q1 : Int) (b1 : Bool) (l2 : List Int) (c2 u2 q2 : Int) (b2 : Bool) (hm : l1.length ≤ 17592186044416) (hm2 : l2.length ≤ 17592186044416) :
    Ev (fun k => ledger_way_both_f15.f k 0 0 l1 c1 (wd u1).1 (wd u1).2 (wd q1).1 (wd q1).2 b1 l2 c2 (wd u2).1 (wd u2).2 (wd q2).1 (wd q2).2 b2) (wayV opA (fun a b => a + b) l1 c1 u1 q1 b1 l2 c2 u2 q2 b2) := by
  unfold ledger_way_both_f15.f wayV
  refine Ev.if_ (fun hl => ?_) (fun hl => ?_)
  · rw [if_pos (by omega)]
    refine Ev.bind (right_f l1 c1 _ _ _ _ _ (by omega)) ?_
    cases h1 : rightB l1 c1
    · refine Ev.neg (by decide) (Ev.succ ?_)
      simp only [ledger_way_both_f15.j0]
      exact Ev.pos (by first | rfl | trivial) (Ev.some_ rfl)
    · refine Ev.pos rfl (Ev.bind (right_f l2 c2 _ _ _ _ _ (by omega)) (Ev.succ ?_))
      simp only [ledger_way_both_f15.j0]
      cases h2 : rightB l2 c2
      · exact Ev.pos rfl (Ev.some_ rfl)
      · refine Ev.neg (by decide) (Ev.bind0 (opA_f _ _) (Ev.bind0 (sum_ok _ _ _ _ _ _) (Ev.bind0 (sum_ok _ _ _ _ _ _) (Ev.bind0 (add_w _ _) (Ev.bind0 (add_w _ _) ?_)))))
        rw [if_pos (by rfl)]
        have := f15_l0 l1 c1 (wd u1).1 (wd u1).2 (wd q1).1 (wd q1).2 b1 l2 c2 (wd u2).1 (wd u2).2 (wd q2).1 (wd q2).2 b2 (opA c1 c2) ((fun a b => a + b) (sgn b1 u1) (sgn b2 u2)) (wd ((fun a b => a + b) q1 q2)).1 (wd ((fun a b => a + b) q1 q2)).2 (by omega) hm l1.length 0 [] (by omega) rfl
        rw [List.drop_zero, List.drop_zero, List.nil_append] at this
        exact this
  · rw [if_neg (by omega)]
    exact Ev.some_ rfl
theorem f24_l0 (l1 : List Int) (c1 s1 t1 q1 r1 : Int) (b1 : Bool) (l2 : List Int) (c2 s2 t2 q2 r2 : Int) (b2 : Bool) (c U V W' : Int) (hl : l1.length = l2.length) (hm : l1.length ≤ 17592186044416) : ∀ (d i : Nat) (acc : List Int), i + d = l1.length → acc.length = i →
    Ev (fun k => ledger_way_both_f24.l0 k (l1.length : Int) (i : Int) l1 c1 s1 t1 q1 r1 b1 l2 c2 s2 t2 q2 r2 b2 acc c (wd U).1 (wd U).2 V W' false)
      (if rightB (acc ++ zipO opS (l1.drop i) (l2.drop i)) c = true then (acc ++ zipO opS (l1.drop i) (l2.drop i), c, (resS U).1, (resS U).2.1, V, W', (resS U).2.2, 0) else ([], 0, 0, 0, 0, 0, false, 4)) := by
  intro d
  induction d with
  | zero =>
    intro i acc hi ha
    refine Ev.succ ?_
    simp only [ledger_way_both_f24.l0]
    refine Ev.neg (by omega) ?_
    rw [List.drop_eq_nil_of_le (by omega), List.drop_eq_nil_of_le (by omega)]
    show Ev _ (if rightB (acc ++ []) c = true then (acc ++ [], c, (resS U).1, (resS U).2.1, V, W', (resS U).2.2, 0) else ([], 0, 0, 0, 0, 0, false, 4))
    rw [List.append_nil]
    refine Ev.bind (right_f acc c _ _ _ _ _ (by omega)) ?_
    cases rightB acc c
    · exact Ev.neg (by decide) (Ev.some_ rfl)
    · refine Ev.pos rfl ?_
      rw [if_pos rfl]
      have hT := top_neg U
      unfold resS
      by_cases h : negB U = true
      · refine Ev.pos (hT.2 h) (Ev.bind0 (neg_w U) (Ev.some_ ?_))
        rw [if_pos h, hT.2 h]; rfl
      · refine Ev.neg (fun x => h (hT.1 x)) (Ev.some_ ?_)
        rw [if_neg h, beq_eq_false_iff_ne.2 (fun x => h (hT.1 x))]
  | succ d ih =>
    intro i acc hi ha
    have h1 : i < l1.length := by omega
    have h2 : i < l2.length := by omega
    have e1 : l1.getD i 0 = l1[i] := by simp [List.getD, List.getElem?_eq_getElem h1]
    have e2 : l2.getD i 0 = l2[i] := by simp [List.getD, List.getElem?_eq_getElem h2]
    refine Ev.succ ?_
    simp only [ledger_way_both_f24.l0, rd_nat]
    rw [e1, e2]
    refine Ev.pos (by omega) (Ev.pos (by omega) (Ev.pos (by omega) (Ev.pos (by omega) (Ev.bind0 (opS_f _ _) (Ev.pos (by omega) ?_)))))
    rw [w64 (by omega), List.drop_eq_getElem_cons h1, List.drop_eq_getElem_cons h2]
    have := ih (i + 1) (acc ++ [opS l1[i] l2[i]]) (by omega) (by rw [List.length_append, ha]; rfl)
    rw [List.append_assoc] at this
    exact this
theorem f24_f (l1 : List Int) (c1 u1 q1 : Int) (b1 : Bool) (l2 : List Int) (c2 u2 q2 : Int) (b2 : Bool) (hm : l1.length ≤ 17592186044416) (hm2 : l2.length ≤ 17592186044416) :
    Ev (fun k => ledger_way_both_f24.f k 0 0 l1 c1 (wd u1).1 (wd u1).2 (wd q1).1 (wd q1).2 b1 l2 c2 (wd u2).1 (wd u2).2 (wd q2).1 (wd q2).2 b2) (wayV opS (fun a b => a - b) l1 c1 u1 q1 b1 l2 c2 u2 q2 b2) := by
  unfold ledger_way_both_f24.f wayV
  refine Ev.if_ (fun hl => ?_) (fun hl => ?_)
  · rw [if_pos (by omega)]
    refine Ev.bind (right_f l1 c1 _ _ _ _ _ (by omega)) ?_
    cases h1 : rightB l1 c1
    · refine Ev.neg (by decide) (Ev.succ ?_)
      simp only [ledger_way_both_f24.j0]
      exact Ev.pos (by first | rfl | trivial) (Ev.some_ rfl)
    · refine Ev.pos rfl (Ev.bind (right_f l2 c2 _ _ _ _ _ (by omega)) (Ev.succ ?_))
      simp only [ledger_way_both_f24.j0]
      cases h2 : rightB l2 c2
      · exact Ev.pos rfl (Ev.some_ rfl)
      · refine Ev.neg (by decide) (Ev.bind0 (opS_f _ _) (Ev.bind0 (sum_ok _ _ _ _ _ _) (Ev.bind0 (sum_ok _ _ _ _ _ _) (Ev.bind0 (sub_w _ _) (Ev.bind0 (sub_w _ _) ?_)))))
        rw [if_pos (by rfl)]
        have := f24_l0 l1 c1 (wd u1).1 (wd u1).2 (wd q1).1 (wd q1).2 b1 l2 c2 (wd u2).1 (wd u2).2 (wd q2).1 (wd q2).2 b2 (opS c1 c2) ((fun a b => a - b) (sgn b1 u1) (sgn b2 u2)) (wd ((fun a b => a - b) q1 q2)).1 (wd ((fun a b => a - b) q1 q2)).2 (by omega) hm l1.length 0 [] (by omega) rfl
        rw [List.drop_zero, List.drop_zero, List.nil_append] at this
        exact this
  · rw [if_neg (by omega)]
    exact Ev.some_ rfl
theorem ladd_f (l1 : List Int) (c1 u1 q1 : Int) (b1 : Bool) (l2 : List Int) (c2 u2 q2 : Int) (b2 : Bool) (hm : l1.length ≤ 17592186044416) (hm2 : l2.length ≤ 17592186044416) :
    Ev (fun k => ledger_Add.f k l1 c1 (wd u1).1 (wd u1).2 (wd q1).1 (wd q1).2 b1 l2 c2 (wd u2).1 (wd u2).2 (wd q2).1 (wd q2).2 b2) (wayV opA (fun a b => a + b) l1 c1 u1 q1 b1 l2 c2 u2 q2 b2) := by
  unfold ledger_Add.f
  exact Ev.bind (f15_f l1 c1 u1 q1 b1 l2 c2 u2 q2 b2 hm hm2) (Ev.now _)
theorem lsub_f (l1 : List Int) (c1 u1 q1 : Int) (b1 : Bool) (l2 : List Int) (c2 u2 q2 : Int) (b2 : Bool) (hm : l1.length ≤ 17592186044416) (hm2 : l2.length ≤ 17592186044416) :
    Ev (fun k => ledger_Sub.f k l1 c1 (wd u1).1 (wd u1).2 (wd q1).1 (wd q1).2 b1 l2 c2 (wd u2).1 (wd u2).2 (wd q2).1 (wd q2).2 b2) (wayV opS (fun a b => a - b) l1 c1 u1 q1 b1 l2 c2 u2 q2 b2) := by
  unfold ledger_Sub.f
  exact Ev.bind (f24_f l1 c1 u1 q1 b1 l2 c2 u2 q2 b2 hm hm2) (Ev.now _)
set_option maxRecDepth 100000 in
theorem awake_f : Ev (fun k => offertorylaw29_awake.f k) true := Ev.of (k := 60) (fun k => offertorylaw29_awake.mono k) (by decide +kernel)
end Go.Proofs.Yticihbccflflfaa.Plain
