/- Of samples in order each lies in the bin of its rank; the mean lies between the least and the greatest. -/
import Derived.Test.YthokkogdkpmdcaaPAllx1
import Derived.Test.YthokkogdkpmdcaaPAllx2
import Derived.Test.YthokkogdkpmdcaaPAllx3
import Derived.Test.YthokkogdkpmdcaaPAllx4
import Derived.Test.YthokkogdkpmdcaaPAllx5
import Derived.Test.YthokkogdkpmdcaaPAllx6
import Derived.Test.YthokkogdkpmdcaaPAllx7
import Derived.Test.YthokkogdkpmdcaaPAllx8
import Derived.Test.YthokkogdkpmdcaaPAllx10

import Derived.Test.YthokkogdkpmdcaaPlainLiesBase
namespace Go.Proofs.Ythokkogdkpmdcaa.Plain
open Go.RowKit Go.Proofs.Ythokkogdkpmdcaa.PAll Go.Proofs.Ythokkogdkpmdcaa.Opn Go.Proofs.Ythokkogdkpmdcaa.Base Go.Proofs.YthokkogdkpmdcaaW.PrintWords Go.Proofs.YthokkogdkpmdcaaW.PrintLast Go.Proofs.YthokkogdkpmdcaaW.PrintMore
set_option linter.unusedVariables false
set_option linter.unusedSimpArgs false
/-- In order. -/
abbrev Srt (o : List Int) : Prop := o.Pairwise (· ≤ ·)
theorem atL_spec (x : Int) : ∀ (r p : List Int) (a : Nat), a ≤ p.length → (∀ y ∈ p.drop a, x < y) → (a = 0 ∨ ∃ y, p[a - 1]? = some y ∧ y ≤ x) →
    (∀ y ∈ (p ++ r).drop (atL x r p.length a), x < y) ∧ (atL x r p.length a = 0 ∨ ∃ y, (p ++ r)[atL x r p.length a - 1]? = some y ∧ y ≤ x)
  | [], p, a, ha, h1, h2 => by
    rw [List.append_nil]
    exact ⟨h1, h2⟩
  | y :: r, p, a, ha, h1, h2 => by
    have e : p ++ y :: r = (p ++ [y]) ++ r := by simp
    have el : (p ++ [y]).length = p.length + 1 := by simp
    rw [e]
    unfold atL
    rw [← el]
    by_cases hy : y ≤ x
    · rw [if_pos hy]
      refine atL_spec x r (p ++ [y]) _ (Nat.le_refl _) (fun z hz => ?_) (Or.inr ⟨y, ?_, hy⟩)
      · rw [List.drop_eq_nil_of_le (Nat.le_refl _)] at hz
        cases hz
      · rw [el, Nat.add_sub_cancel]
        simp
    · rw [if_neg hy]
      refine atL_spec x r (p ++ [y]) a (by omega) (fun z hz => ?_) ?_
      · rw [List.drop_append_of_le_length ha] at hz
        rcases List.mem_append.1 hz with h | h
        · exact h1 z h
        · rw [List.mem_singleton.1 h]; omega
      · rcases h2 with h | ⟨z, hz, hzx⟩
        · exact Or.inl h
        · refine Or.inr ⟨z, ?_, hzx⟩
          have hlt := (List.getElem?_eq_some_iff.1 hz).1
          rw [List.getElem?_append_left hlt]
          exact hz
theorem insA_perm (x : Int) (o : List Int) : (insA x o).Perm (x :: o) := by
  unfold insA
  rw [List.append_assoc, List.singleton_append]
  refine List.perm_middle.trans ?_
  rw [List.take_append_drop]
theorem insA_srt (x : Int) {o : List Int} (h : Srt o) : Srt (insA x o) := by
  obtain ⟨h1, h2⟩ := atL_spec x o [] 0 (Nat.le_refl _) (fun y hy => by cases hy) (Or.inl rfl)
  rw [List.nil_append, List.length_nil] at h1 h2
  have hle := atL_le x o 0 0 (Nat.le_refl _)
  unfold insA
  generalize atL x o 0 0 = t at *
  have hs : (o.take t ++ o.drop t).Pairwise (· ≤ ·) := by rw [List.take_append_drop]; exact h
  obtain ⟨s1, s2, s3⟩ := List.pairwise_append.1 hs
  have ht : ∀ y ∈ o.take t, y ≤ x := by
    intro y hy
    rcases h2 with h0 | ⟨z, hz, hzx⟩
    · rw [h0] at hy
      cases hy
    · obtain ⟨hlt, hz⟩ := List.getElem?_eq_some_iff.1 hz
      obtain ⟨i, hi, rfl⟩ := List.getElem_of_mem hy
      rw [List.length_take] at hi
      rw [List.getElem_take]
      by_cases e : i = t - 1
      · subst e
        omega
      · have := List.pairwise_iff_getElem.1 h i (t - 1) (by omega) hlt (by omega)
        omega
  refine List.pairwise_append.2 ⟨List.pairwise_append.2 ⟨s1, List.pairwise_singleton _ _, fun a ha b hb => ?_⟩, s2, fun a ha b hb => ?_⟩
  · rw [List.mem_singleton.1 hb]; exact ht a ha
  · rcases List.mem_append.1 ha with h3 | h3
    · exact s3 a h3 b hb
    · rw [List.mem_singleton.1 h3]
      have := h1 b hb
      omega
theorem ordF_f {lo hi : Int} (most : Int) (es : List Int) (h : lo ≤ hi) : ∀ (l o : List Int), Srt o → ∃ q, ordF lo hi most es l o = some q ∧ Srt q ∧ q.Perm (l.map (clampV lo hi) ++ o)
  | [], o, ho => ⟨o, rfl, ho, List.Perm.refl _⟩
  | y :: r, o, ho => by
    obtain ⟨q, h1, h2, h3⟩ := ordF_f most es h r (insA (clampV lo hi y) o) (insA_srt _ ho)
    refine ⟨q, ?_, h2, ?_⟩
    · unfold ordF
      rw [refClamp_f h]
      exact h1
    · refine h3.trans ?_
      rw [List.map_cons, List.cons_append]
      exact ((insA_perm _ _).append_left _).trans List.perm_middle
/-- The bins' counts, as counts of what lies in each. -/
theorem bump_get (c : List Int) (n b : Nat) (hn : n < c.length) : (bump c n).getD b 0 = c.getD b 0 + (if n = b then 1 else 0) := by
  unfold bump
  by_cases e : n = b
  · subst e
    simp [List.getD, hn]
  · simp [List.getD, List.getElem?_set_ne e, e]
theorem counts_get (lo hi : Int) (es : List Int) (b : Nat) : ∀ (l c : List Int), c.length = es.length + 1 → (counts lo hi es c l).getD b 0 = c.getD b 0 + (((l.map (clampV lo hi)).countP fun y => binN es y == b : Nat) : Int)
  | [], c, h => by simp [counts]
  | x :: l, c, h => by
    show (counts lo hi es (bump c _) l).getD b 0 = _
    have hb := binN_le es (clampV lo hi x)
    rw [counts_get lo hi es b l _ (by rw [bump_length]; exact h), bump_get _ _ _ (by omega), List.map_cons, List.countP_cons]
    by_cases e : binN es (clampV lo hi x) = b
    · rw [if_pos e, if_pos (by simpa using e)]; omega
    · rw [if_neg e, if_neg (by simpa using e)]; omega
theorem zeros_get (es : List Int) (b : Nat) : (zeros es).getD b 0 = 0 := by
  unfold zeros
  rw [List.getD_eq_getElem?_getD, List.getElem?_replicate]
  split <;> rfl
/-- How many lie below a bin. -/
def cum (es o : List Int) (j : Nat) : Nat := o.countP fun y => decide (binN es y < j)
theorem cum_zero (es o : List Int) : cum es o 0 = 0 := by simp [cum]
theorem cum_succ (es : List Int) (j : Nat) : ∀ o : List Int, cum es o (j + 1) = cum es o j + o.countP fun y => binN es y == j
  | [] => rfl
  | y :: o => by
    have ih := cum_succ es j o
    unfold cum at ih ⊢
    rw [List.countP_cons, List.countP_cons, List.countP_cons, ih]
    by_cases h1 : binN es y < j
    · rw [if_pos (by simp; omega), if_pos (by simp; omega), if_neg (by simp; omega)]; omega
    · by_cases h2 : binN es y = j
      · rw [if_pos (by simp; omega), if_neg (by simp; omega), if_pos (by simp; omega)]; omega
      · rw [if_neg (by simp; omega), if_neg (by simp; omega), if_neg (by simp; omega)]; omega
theorem srt_take {o : List Int} (h : Srt o) {n : Nat} (hn : n < o.length) : ∀ y ∈ o.take (n + 1), y ≤ o[n] := by
  intro y hy
  obtain ⟨i, hi, rfl⟩ := List.getElem_of_mem hy
  rw [List.length_take] at hi
  rw [List.getElem_take]
  by_cases e : i = n
  · subst e; omega
  · exact List.pairwise_iff_getElem.1 h i n (by omega) hn (by omega)
theorem srt_drop {o : List Int} (h : Srt o) {n : Nat} (hn : n < o.length) : ∀ y ∈ o.drop n, o[n] ≤ y := by
  intro y hy
  obtain ⟨i, hi, rfl⟩ := List.getElem_of_mem hy
  rw [List.length_drop] at hi
  rw [List.getElem_drop]
  by_cases e : i = 0
  · subst e; exact Int.le_refl _
  · exact List.pairwise_iff_getElem.1 h n (n + i) hn (by omega) (by omega)
theorem cum_le {es o : List Int} (h : Srt o) {n : Nat} (hn : n < o.length) {j : Nat} (hj : j ≤ binN es o[n]) : cum es o j ≤ n := by
  unfold cum
  conv => lhs; rw [← List.take_append_drop n o]
  rw [List.countP_append]
  have h0 : (o.drop n).countP (fun y => decide (binN es y < j)) = 0 := by
    rw [List.countP_eq_zero]
    intro y hy
    have := binN_mono (es := es) (srt_drop h hn y hy)
    simp only [decide_eq_true_eq]
    omega
  have h1 := List.countP_le_length (p := fun y => decide (binN es y < j)) (l := o.take n)
  rw [List.length_take] at h1
  omega
theorem cum_gt {es o : List Int} (h : Srt o) {n : Nat} (hn : n < o.length) : n < cum es o (binN es o[n] + 1) := by
  unfold cum
  have h1 : (o.take (n + 1)).countP (fun y => decide (binN es y < binN es o[n] + 1)) = (o.take (n + 1)).length := by
    rw [List.countP_eq_length]
    intro y hy
    have := binN_mono (es := es) (srt_take h hn y hy)
    simp only [decide_eq_true_eq]
    omega
  have h2 := List.countP_append (p := fun y => decide (binN es y < binN es o[n] + 1)) (l₁ := o.take (n + 1)) (l₂ := o.drop (n + 1))
  rw [List.take_append_drop] at h2
  rw [h2, h1, List.length_take]
  omega
theorem counted_l0 (c : List Int) (cnt q1 q2 q3 q4 : Int) (b : Bool) (a2 : List Int) (hc : ∀ v ∈ c, 0 ≤ v ∧ v ≤ 1000) (hl : c.length ≤ 1000) : ∀ (d i : Nat) (x : Int), i + d = c.length → 0 ≤ x → x ≤ 1000 * i → x + (c.drop i).sum = cnt →
    Ev (fun k => rank_counted.l0 k x c (c.length : Int) (i : Int) a2 cnt q1 q2 q3 q4 b) true := by
  intro d
  induction d with
  | zero =>
    intro i x hi h0 h1 hs
    refine Ev.succ ?_
    simp only [rank_counted.l0]
    refine Ev.neg (by omega) (Ev.some_ ?_)
    rw [List.drop_eq_nil_of_le (by omega)] at hs
    rw [beq_iff_eq, ← hs]
    simp
  | succ d ih =>
    intro i x hi h0 h1 hs
    have hlt : i < c.length := by omega
    have hv := hc c[i] (List.getElem_mem hlt)
    rw [List.drop_eq_getElem_cons hlt, List.sum_cons] at hs
    refine Ev.succ ?_
    simp only [rank_counted.l0]
    rw [rd_get c i hlt]
    refine Ev.pos (by omega) (Ev.pos (by omega) (Ev.pos (by omega) (Ev.neg (by omega) (Ev.neg (by omega) ?_))))
    rw [w64 (by omega), w64 (by omega), w64 (by omega)]
    refine Ev.neg (by omega) ?_
    exact ih (i + 1) (x + c[i]) (by omega) (by omega) (by omega) (by omega)
theorem rank_l0 (c o es : List Int) (cnt q1 q2 q3 q4 : Int) (bb : Bool) (hc : ∀ v ∈ c, 0 ≤ v ∧ v ≤ 1000) (hl : c.length = es.length + 1) (hes : es.length ≤ 64) (ho : o.length ≤ 1000) (hg : ∀ b, b < c.length → c.getD b 0 = ((o.countP fun y => binN es y == b : Nat) : Int)) {n : Nat} (hn : n < o.length) (h : Srt o) : ∀ (d j : Nat), j + d = binN es o[n] →
    Ev (fun k => rank_Rank.l0 k ((n : Int) - (cum es o j : Nat)) (j : Int) c cnt q1 q2 q3 q4 bb) ((binN es o[n] : Nat), 0) := by
  have hb := binN_le es o[n]
  intro d
  induction d with
  | zero =>
    intro j hj
    have h1 := cum_le (es := es) h hn (j := j) (by omega)
    have h2 := cum_gt (es := es) h hn
    have h3 := cum_succ es j o
    have hjb : binN es o[n] = j := by omega
    rw [hjb] at h2 ⊢
    refine Ev.succ ?_
    simp only [rank_Rank.l0]
    rw [rd_nat, hg j (by omega)]
    exact Ev.pos (by omega) (Ev.pos (by omega) (Ev.neg (by omega) (Ev.some_ rfl)))
  | succ d ih =>
    intro j hj
    have h1 := cum_le (es := es) h hn (j := j) (by omega)
    have h2 := cum_le (es := es) h hn (j := j + 1) (by omega)
    have h3 := cum_succ es j o
    refine Ev.succ ?_
    simp only [rank_Rank.l0]
    rw [rd_nat, hg j (by omega)]
    refine Ev.pos (by omega) (Ev.pos (by omega) (Ev.pos (by omega) ?_))
    rw [w64 (by omega), w64 (by omega)]
    have := ih (j + 1) (by omega)
    rw [show ((n : Int) - (cum es o j : Nat)) - ((o.countP fun y => binN es y == j : Nat) : Int) = (n : Int) - (cum es o (j + 1) : Nat) by omega]
    exact this
theorem rank_f (c o es : List Int) (q1 q2 q3 q4 : Int) (bb : Bool) (hc : ∀ v ∈ c, 0 ≤ v ∧ v ≤ 1000) (hl : c.length = es.length + 1) (hes : es.length ≤ 64) (ho : o.length ≤ 1000) (hg : ∀ b, b < c.length → c.getD b 0 = ((o.countP fun y => binN es y == b : Nat) : Int)) (hsum : c.sum = (o.length : Int)) {n : Nat} (hn : n < o.length) (h : Srt o) :
    Ev (fun k => rank_Rank.f k c (o.length : Int) q1 q2 q3 q4 bb (n : Int)) ((binN es o[n] : Nat), 0) := by
  unfold rank_Rank.f
  refine Ev.neg (by omega) ?_
  rw [decide_eq_false (by omega)]
  refine Ev.succ ?_
  simp only [rank_Rank.j0]
  refine Ev.neg (by decide) (Ev.bind (a := true) ?_ (Ev.pos rfl ?_))
  · unfold rank_counted.f
    exact counted_l0 c _ q1 q2 q3 q4 bb c hc (by omega) c.length 0 0 (by omega) (by omega) (by omega) (by rw [List.drop_zero, Int.zero_add]; exact hsum)
  · have := rank_l0 c o es (o.length : Int) q1 q2 q3 q4 bb hc hl hes ho hg hn h (binN es o[n]) 0 (by omega)
    rw [cum_zero] at this
    exact this
theorem sum_ge (m : Int) : ∀ (l : List Int), (∀ y ∈ l, m ≤ y) → m * (l.length : Int) ≤ l.sum
  | [], _ => by simp
  | x :: l, h => by
    have ih := sum_ge m l (fun y hy => h y (List.mem_cons_of_mem _ hy))
    have hx := h x (List.mem_cons_self ..)
    rw [List.sum_cons, List.length_cons, Int.natCast_add, Int.mul_add]
    simp only [Int.natCast_one, Int.mul_one]
    omega
theorem sum_le (m : Int) : ∀ (l : List Int), (∀ y ∈ l, y ≤ m) → l.sum ≤ m * (l.length : Int)
  | [], _ => by simp
  | x :: l, h => by
    have ih := sum_le m l (fun y hy => h y (List.mem_cons_of_mem _ hy))
    have hx := h x (List.mem_cons_self ..)
    rw [List.sum_cons, List.length_cons, Int.natCast_add, Int.mul_add]
    simp only [Int.natCast_one, Int.mul_one]
    omega
theorem sum_perm {a b : List Int} (h : a.Perm b) : a.sum = b.sum := by
  induction h with
  | nil => rfl
  | cons x _ ih => rw [List.sum_cons, List.sum_cons, ih]
  | swap x y l => simp only [List.sum_cons]; omega
  | trans _ _ h1 h2 => exact h1.trans h2
theorem mean_small {S c : Int} (hc : 1 ≤ c ∧ c ≤ 1000) (hS : -1000000000000000 ≤ S ∧ S ≤ 1000000000000000) : meanV c (wv (resS S).1 (resS S).2.1) (resS S).2.2 = (S / c, 0) := by
  unfold meanV
  rw [if_neg (by omega)]
  by_cases h : S < 0
  · have hb : negB S = true := by unfold negB; rw [decide_eq_true_eq]; omega
    have e : resS S = ((wd (-S)).1, (wd (-S)).2, true) := by unfold resS; rw [if_pos hb]
    rw [e]
    simp only
    rw [if_pos trivial, wv_wd, if_neg (by omega), show (-S) % 340282366920938463463374607431768211456 = -S by omega, Int.neg_neg]
  · have hb : ¬ negB S = true := by unfold negB; rw [decide_eq_true_eq]; omega
    have e : resS S = ((wd S).1, (wd S).2, false) := by unfold resS; rw [if_neg hb]
    rw [e]
    simp only
    rw [if_neg (by decide), wv_wd, if_neg (by omega), show S % 340282366920938463463374607431768211456 = S by omega]
end Go.Proofs.Ythokkogdkpmdcaa.Plain
