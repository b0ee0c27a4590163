/- What the bins come to: the bin of a sample, and how many samples each bin has. -/
import Derived.Test.YthbiijhjcoakfaaPlainClamp
namespace Go.Proofs.Ythbiijhjcoakfaa.Plain
open Go.RowKit Go.Proofs.Ythbiijhjcoakfaa.PAll Go.Proofs.Ythbiijhjcoakfaa.Opn Go.Proofs.Ythbiijhjcoakfaa.Base Go.Proofs.YthbiijhjcoakfaaW.PrintWords Go.Proofs.YthbiijhjcoakfaaW.PrintLast Go.Proofs.YthbiijhjcoakfaaW.PrintMore
set_option linter.unusedVariables false
set_option linter.unusedSimpArgs false

theorem rises_lt {es : List Int} (h : risesB es = true) : ∀ d s t, t - s = d → s < t → t < es.length → es.getD s 0 < es.getD t 0
  | d, s, t, hd, h1, h2 => by
    have hs := (risesB_iff es).1 h t (by omega) h2
    by_cases h3 : s = t - 1
    · subst h3; exact hs
    · have := rises_lt h (d - 1) s (t - 1) (by omega) (by omega) (by omega)
      omega
  termination_by d _ _ => d
  decreasing_by all_goals omega

/-- The bin of a number: how many edges lie at or below it, ahead of the first one that doesn't. -/
def IsBin (es : List Int) (y : Int) (n : Nat) : Prop := n ≤ es.length ∧ (∀ j, j < n → es.getD j 0 ≤ y) ∧ (n < es.length → y < es.getD n 0)
theorem IsBin.unique {es : List Int} {y : Int} {n m : Nat} (h : IsBin es y n) (h' : IsBin es y m) : n = m := by
  obtain ⟨a, b, c⟩ := h
  obtain ⟨a', b', c'⟩ := h'
  rcases Nat.lt_trichotomy n m with h1 | h1 | h1
  · have := b' n h1; have := c (by omega); omega
  · exact h1
  · have := b m h1; have := c' (by omega); omega
def binN (es : List Int) (y : Int) : Nat := (es.takeWhile (fun e => decide (e ≤ y))).length
theorem binN_is : ∀ (es : List Int) (y : Int), IsBin es y (binN es y)
  | [], y => ⟨Nat.le_refl _, fun j h => by simp [binN] at h, fun h => by simp [binN] at h⟩
  | e :: es, y => by
    by_cases h : e ≤ y
    · have e1 : binN (e :: es) y = binN es y + 1 := by simp [binN, List.takeWhile, h]
      obtain ⟨a, b, c⟩ := binN_is es y
      rw [e1]
      refine ⟨by simpa using a, fun j hj => ?_, fun hn => ?_⟩
      · cases j with
        | zero => simpa using h
        | succ j => simpa using b j (by omega)
      · simpa using c (by simpa using hn)
    · have e1 : binN (e :: es) y = 0 := by simp [binN, List.takeWhile, h]
      rw [e1]
      exact ⟨Nat.zero_le _, fun j hj => by omega, fun _ => by simp; omega⟩
theorem binN_le (es : List Int) (y : Int) : binN es y ≤ es.length := (binN_is es y).1
theorem binN_mono {es : List Int} {x y : Int} (h : x ≤ y) : binN es x ≤ binN es y := by
  obtain ⟨a, b, c⟩ := binN_is es x
  obtain ⟨a', b', c'⟩ := binN_is es y
  rcases Nat.lt_or_ge (binN es y) (binN es x) with h1 | h1
  · have := b _ h1; have := c' (by omega); omega
  · exact h1

theorem less_f (a b : Int) : cmp_Less_int.f a b = some (decide (a < b)) := by
  unfold cmp_Less_int.f cmp_isNaN_int.f
  simp
theorem half {i j : Nat} (h : j ≤ 1000000) (hij : i ≤ j) : wrap64 (IntKind.u64.wrap (wrap64 ((i : Int) + (j : Int))) / 2) = (((i + j) / 2 : Nat) : Int) := by
  rw [w64 (x := (i : Int) + j) (by omega), wu64 (by omega), w64 (by omega)]
  omega
theorem search_l0 (es : List Int) (y : Int) (hr : risesB es = true) (hl : es.length ≤ 64) : ∀ (d i j : Nat), j - i = d → i ≤ j → j ≤ es.length → (∀ t, t < i → es.getD t 0 < y) → (∀ t, j ≤ t → t < es.length → y ≤ es.getD t 0) →
    ∃ n b, Ev (fun k => slices_BinarySearch_int_int.l0 k es y (es.length : Int) (i : Int) (j : Int)) ((n : Nat), b) ∧ n ≤ es.length ∧ binN es y = if b = true then n + 1 else n
  | d, i, j, hd, hij, hj, hlo, hhi => by
    by_cases h : i < j
    · have hh := half (i := i) (j := j) (by omega) (by omega)
      have hm : (i + j) / 2 < j := by omega
      have hm2 : i ≤ (i + j) / 2 := by omega
      by_cases hc : es.getD ((i + j) / 2) 0 < y
      · obtain ⟨n, b, hev, hn, hb⟩ := search_l0 es y hr hl (j - ((i + j) / 2 + 1)) ((i + j) / 2 + 1) j rfl (by omega) hj (fun t ht => by
          by_cases h3 : t = (i + j) / 2
          · subst h3; exact hc
          · have := rises_lt hr _ t ((i + j) / 2) rfl (by omega) (by omega)
            omega) hhi
        refine ⟨n, b, Ev.succ ?_, hn, hb⟩
        simp only [slices_BinarySearch_int_int.l0, hh, rd_nat]
        refine Ev.pos (by omega) (Ev.pos (by omega) (Ev.pos (by omega) (Ev.bind0 (less_f _ _) ?_)))
        refine Ev.pos (decide_eq_true hc) ?_
        rw [w64 (by omega)]
        exact hev
      · obtain ⟨n, b, hev, hn, hb⟩ := search_l0 es y hr hl ((i + j) / 2 - i) i ((i + j) / 2) rfl hm2 (by omega) hlo (fun t ht1 ht2 => by
          by_cases h3 : t = (i + j) / 2
          · subst h3; omega
          · have := rises_lt hr _ ((i + j) / 2) t rfl (by omega) ht2
            omega)
        refine ⟨n, b, Ev.succ ?_, hn, hb⟩
        simp only [slices_BinarySearch_int_int.l0, hh, rd_nat]
        refine Ev.pos (by omega) (Ev.pos (by omega) (Ev.pos (by omega) (Ev.bind0 (less_f _ _) ?_)))
        refine Ev.neg (by simpa using hc) hev
    · have hij' : i = j := by omega
      subst hij'
      by_cases h1 : i < es.length
      · have h2 := hhi i (Nat.le_refl _) h1
        by_cases h3 : es.getD i 0 = y
        · refine ⟨i, true, Ev.succ ?_, by omega, ?_⟩
          · simp only [slices_BinarySearch_int_int.l0, rd_nat]
            exact Ev.neg (by omega) (Ev.pos (by omega) (Ev.pos (by omega) (Ev.pos (by omega) (Ev.pos h3 (Ev.now _)))))
          · simp only [if_true]
            refine (binN_is es y).unique ⟨by omega, fun t ht => ?_, fun ht => ?_⟩
            · by_cases h4 : t = i
              · subst h4; omega
              · have := hlo t (by omega); omega
            · have := rises_lt hr _ i (i + 1) rfl (by omega) ht
              omega
        · refine ⟨i, false, Ev.succ ?_, by omega, ?_⟩
          · simp only [slices_BinarySearch_int_int.l0, rd_nat]
            refine Ev.neg (by omega) (Ev.pos (by omega) (Ev.pos (by omega) (Ev.pos (by omega) (Ev.neg h3 ?_))))
            refine Ev.bind0 (a := false) (by unfold slices_isNaN_int.f; simp) ?_
            exact Ev.neg (by decide) (Ev.now _)
          · simp only [Bool.false_eq_true, if_false]
            refine (binN_is es y).unique ⟨by omega, fun t ht => ?_, fun ht => by omega⟩
            have := hlo t ht; omega
      · refine ⟨i, false, Ev.succ ?_, by omega, ?_⟩
        · simp only [slices_BinarySearch_int_int.l0]
          exact Ev.neg (by omega) (Ev.neg (by omega) (Ev.now _))
        · simp only [Bool.false_eq_true, if_false]
          refine (binN_is es y).unique ⟨by omega, fun t ht => ?_, fun ht => by omega⟩
          have := hlo t ht; omega
  termination_by d _ _ => d
  decreasing_by all_goals omega

/-- What Find answers. -/
theorem find_f (lo hi most : Int) (es : List Int) (x : Int) (hl : es.length ≤ 9223372036854775806) (h1 : -9223372036854775808 ≤ lo ∧ lo ≤ 9223372036854775807) (h2 : -9223372036854775808 ≤ hi ∧ hi ≤ 9223372036854775807) :
    Ev (fun k => bin_Find.f k lo hi most es x) (if soundE lo hi most es = 0 then ((binN es (clampV lo hi x) : Nat), 0) else (0, soundE lo hi most es)) := by
  unfold bin_Find.f
  refine Ev.bind (clamp_f lo hi most es x hl h1 h2) ?_
  by_cases h : soundE lo hi most es = 0
  · simp only [h, if_true]
    obtain ⟨_, _, _, _, _, _, hr, h64⟩ := sound0 h
    obtain ⟨n, b, hev, hn, hb⟩ := search_l0 es (clampV lo hi x) hr h64 _ 0 es.length rfl (Nat.zero_le _) (Nat.le_refl _) (fun t ht => by omega) (fun t h3 h4 => by omega)
    have hf : Ev (fun k => slices_BinarySearch_int_int.f k es (clampV lo hi x)) ((n : Int), b) := hev
    refine Ev.bind hf ?_
    refine Ev.if_ (fun hc => ?_) (fun hc => ?_)
    · rw [if_pos hc] at hb
      rw [w64 (by omega), hb]
      exact Ev.some_ rfl
    · rw [if_neg hc] at hb
      rw [hb]
      exact Ev.now _
  · simp only [h, if_false]
    exact Ev.now _

theorem refClamp_f {lo hi : Int} (h : lo ≤ hi) (most : Int) (es : List Int) (x : Int) : offertoryref09_Clamp.f lo hi most es x = some (clampV lo hi x) := by
  rw [clampV_eq h]; unfold offertoryref09_Clamp.f
  split <;> (try split) <;> rfl
theorem refBin_l0 (lo hi most : Int) (es : List Int) (x : Int) (h0 : lo ≤ hi) (hl : es.length ≤ 64) : ∀ d i : Nat, es.length - i = d → i ≤ es.length → (∀ t, t < i → es.getD t 0 ≤ clampV lo hi x) →
    Ev (fun k => offertoryref09_Bin.l0 k x (i : Int) lo hi most es) (binN es (clampV lo hi x) : Nat)
  | d, i, hd, hi', hlo => by
    refine Ev.succ ?_
    simp only [offertoryref09_Bin.l0, rd_nat]
    by_cases h : i < es.length
    · refine Ev.pos (by omega) (Ev.pos (by omega) (Ev.bind0 (refClamp_f h0 _ _ _) ?_))
      by_cases hc : es.getD i 0 ≤ clampV lo hi x
      · refine Ev.pos hc ?_
        rw [w64 (by omega)]
        exact refBin_l0 lo hi most es x h0 hl (d - 1) (i + 1) (by omega) (by omega) (fun t ht => by
          by_cases h3 : t = i
          · subst h3; exact hc
          · exact hlo t (by omega))
      · refine Ev.neg hc (Ev.some_ ?_)
        have := (binN_is es (clampV lo hi x)).unique (m := i) ⟨by omega, hlo, fun _ => by omega⟩
        rw [this]
    · refine Ev.neg (by omega) (Ev.some_ ?_)
      have := (binN_is es (clampV lo hi x)).unique (m := i) ⟨by omega, hlo, fun hn => by omega⟩
      rw [this]
  termination_by d _ => d
  decreasing_by all_goals omega
theorem refBin_f (lo hi most : Int) (es : List Int) (x : Int) (h0 : lo ≤ hi) (hl : es.length ≤ 64) : Ev (fun k => offertoryref09_Bin.f k lo hi most es x) (binN es (clampV lo hi x) : Nat) :=
  refBin_l0 lo hi most es x h0 hl _ 0 rfl (Nat.zero_le _) (fun t ht => by omega)

/-- One more in a bin. -/
def bump (c : List Int) (n : Nat) : List Int := c.set n (c.getD n 0 + 1)
theorem bump_length (c : List Int) (n : Nat) : (bump c n).length = c.length := by simp [bump]
theorem bump_sum : ∀ (c : List Int) (n : Nat), n < c.length → (bump c n).sum = c.sum + 1
  | a :: c, 0, _ => by simp [bump]; omega
  | a :: c, n + 1, h => by
    have := bump_sum c n (by simpa using h)
    simp only [bump, List.getD_cons_succ, List.set_cons_succ, List.sum_cons] at this ⊢
    omega
theorem bump_in {c : List Int} {n : Nat} {m : Int} (h : ∀ v ∈ c, 0 ≤ v ∧ v ≤ m) (hn : n < c.length) : ∀ v ∈ bump c n, 0 ≤ v ∧ v ≤ m + 1 := by
  intro v hv
  rcases List.mem_or_eq_of_mem_set hv with h1 | h1
  · have := h v h1; omega
  · have h2 := h (c.getD n 0) (by rw [List.getD_eq_getElem?_getD, List.getElem?_eq_getElem hn]; exact List.getElem_mem hn)
    omega
theorem getD_in {c : List Int} {n : Nat} {m : Int} (h : ∀ v ∈ c, 0 ≤ v ∧ v ≤ m) (hn : n < c.length) : 0 ≤ c.getD n 0 ∧ c.getD n 0 ≤ m :=
  h _ (by rw [List.getD_eq_getElem?_getD, List.getElem?_eq_getElem hn]; exact List.getElem_mem hn)
/-- The counts behind some samples more. -/
def counts (lo hi : Int) (es : List Int) (c l : List Int) : List Int := l.foldl (fun c x => bump c (binN es (clampV lo hi x))) c
theorem counts_length (lo hi : Int) (es : List Int) : ∀ (l c : List Int), (counts lo hi es c l).length = c.length
  | [], c => rfl
  | x :: l, c => by
    show (counts lo hi es (bump c _) l).length = _
    rw [counts_length lo hi es l, bump_length]
theorem counts_sum (lo hi : Int) (es : List Int) : ∀ (l c : List Int), c.length = es.length + 1 → (counts lo hi es c l).sum = c.sum + l.length
  | [], c, h => by simp [counts]
  | x :: l, c, h => by
    show (counts lo hi es (bump c _) l).sum = _
    have hb := binN_le es (clampV lo hi x)
    rw [counts_sum lo hi es l _ (by rw [bump_length]; exact h), bump_sum _ _ (by omega)]
    simp only [List.length_cons]; omega
theorem counts_in (lo hi : Int) (es : List Int) : ∀ (l c : List Int) (m : Int), c.length = es.length + 1 → (∀ v ∈ c, 0 ≤ v ∧ v ≤ m) → ∀ v ∈ counts lo hi es c l, 0 ≤ v ∧ v ≤ m + l.length
  | [], c, m, _, h => by simpa [counts] using h
  | x :: l, c, m, hc, h => by
    show ∀ v ∈ counts lo hi es (bump c _) l, _
    have hb := binN_le es (clampV lo hi x)
    have := counts_in lo hi es l (bump c (binN es (clampV lo hi x))) (m + 1) (by rw [bump_length]; exact hc) (bump_in h (by omega))
    intro v hv
    have := this v hv
    simp only [List.length_cons]; omega
theorem counts_append (lo hi : Int) (es c l m : List Int) : counts lo hi es c (l ++ m) = counts lo hi es (counts lo hi es c l) m := by simp [counts, List.foldl_append]
/-- No samples yet. -/
def zeros (es : List Int) : List Int := List.replicate (es.length + 1) 0
theorem zeros_length (es : List Int) : (zeros es).length = es.length + 1 := by simp [zeros]
theorem zeros_in (es : List Int) : ∀ v ∈ zeros es, (0 : Int) ≤ v ∧ v ≤ 0 := by
  intro v hv
  have := (List.mem_replicate.1 hv).2
  omega
theorem zeros_sum (es : List Int) : (zeros es).sum = 0 := by
  unfold zeros
  induction es.length + 1 with
  | zero => rfl
  | succ n ih => rw [List.replicate_succ, List.sum_cons, ih]; rfl

end Go.Proofs.Ythbiijhjcoakfaa.Plain
