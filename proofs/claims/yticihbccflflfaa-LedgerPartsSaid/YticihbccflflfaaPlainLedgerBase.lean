/- What stats come to: plans, bins, wide numbers, in plain numbers. -/
import Derived.Test.YticihbccflflfaaPAllx2
import Derived.Test.YticihbccflflfaaPAllx4
import Derived.Test.YticihbccflflfaaPAllx6
import Derived.Test.YticihbccflflfaaPAllx7
import Derived.Test.YticihbccflflfaaPAllx8
import Derived.Test.YticihbccflflfaaPAllx9
import Derived.Test.YticihbccflflfaaPAllx10
import Derived.Test.YticihbccflflfaaPAllx12

import Derived.Test.YticihbccflflfaaBase
namespace Go.Proofs.Yticihbccflflfaa.Plain
open Go.RowKit Go.Proofs.Yticihbccflflfaa.PAll Go.Proofs.Yticihbccflflfaa.Opn Go.Proofs.Yticihbccflflfaa.Base Go.Proofs.YticihbccflflfaaW.PrintWords Go.Proofs.YticihbccflflfaaW.PrintLast Go.Proofs.YticihbccflflfaaW.PrintMore
set_option linter.unusedVariables false
set_option linter.unusedSimpArgs false
set_option linter.unusedSimpArgs false

/-- A list rises. -/
def risesB : List Int → Bool
  | a :: b :: l => decide (a < b) && risesB (b :: l)
  | _ => true
theorem risesB_iff : ∀ l : List Int, risesB l = true ↔ ∀ j, 1 ≤ j → j < l.length → l.getD (j - 1) 0 < l.getD j 0
  | [] => by simp [risesB]
  | [a] => by simp [risesB]; intro j h1 h2; omega
  | a :: b :: l => by
    simp only [risesB, Bool.and_eq_true, decide_eq_true_eq]
    rw [risesB_iff (b :: l)]
    constructor
    · rintro ⟨h0, h⟩ j h1 h2
      match j, h1 with
      | 1, _ => simpa using h0
      | j + 2, _ =>
        have := h (j + 1) (by omega) (by simpa using h2)
        simpa using this
    · intro h
      refine ⟨by simpa using h 1 (by omega) (by simp), fun j h1 h2 => ?_⟩
      match j, h1 with
      | j + 1, _ =>
        have := h (j + 2) (by omega) (by simpa using h2)
        simpa using this
def boundsB (lo hi : Int) : Bool := decide (-1099511627776 ≤ lo ∧ hi ≤ 1099511627776 ∧ lo ≤ hi ∧ hi - lo < 1099511627776)
/-- What a plan's check answers. -/
def soundE (lo hi most : Int) (es : List Int) : Int :=
  if boundsB lo hi = true then (if most < 1 ∨ most > 65536 then 9 else if risesB es = true ∧ es.length ≤ 64 then 0 else 10) else 4
theorem sound0 {lo hi most : Int} {es : List Int} (h : soundE lo hi most es = 0) : -1099511627776 ≤ lo ∧ hi ≤ 1099511627776 ∧ lo ≤ hi ∧ hi - lo < 1099511627776 ∧ 1 ≤ most ∧ most ≤ 65536 ∧ risesB es = true ∧ es.length ≤ 64 := by
  unfold soundE at h
  split at h
  · rename_i hb
    split at h
    · simp at h
    · split at h
      · rename_i h1 h2
        have := of_decide_eq_true hb
        obtain ⟨h3, h4⟩ := h2
        exact ⟨by omega, by omega, by omega, by omega, by omega, by omega, h3, h4⟩
      · simp at h
  · simp at h
theorem rises_step {es : List Int} {i : Nat} (h1 : 1 ≤ i) (h : i < es.length) : risesB (es.drop (i - 1)) = (decide (es.getD (i - 1) 0 < es.getD i 0) && risesB (es.drop i)) := by
  have h0 : i - 1 < es.length := by omega
  rw [List.drop_eq_getElem_cons h0, show i - 1 + 1 = i by omega, List.drop_eq_getElem_cons h]
  simp [risesB, List.getD, List.getElem?_eq_getElem h0, List.getElem?_eq_getElem h]
theorem rises_end {es : List Int} {i : Nat} (h : ¬ i < es.length) : risesB (es.drop (i - 1)) = true := by
  have h0 : (es.drop (i - 1)).length ≤ 1 := by rw [List.length_drop]; omega
  match es.drop (i - 1), h0 with
  | [], _ => rfl
  | [a], _ => rfl
theorem refSound_l0 (lo hi most : Int) (es : List Int) (hl : es.length ≤ 64) : ∀ d i : Nat, es.length - i = d → 1 ≤ i →
    Ev (fun k => offertoryref09_Sound.l0 k (i : Int) lo hi most es) (if risesB (es.drop (i - 1)) = true then 0 else 10)
  | d, i, hd, h1 => by
    refine Ev.succ ?_
    simp only [offertoryref09_Sound.l0]
    by_cases h : i < es.length
    · have e1 : wrap64 ((i : Int) - 1) = ((i - 1 : Nat) : Int) := by rw [w64 (by omega)]; omega
      have e2 : wrap64 ((i : Int) + 1) = ((i + 1 : Nat) : Int) := by rw [w64 (by omega)]; omega
      rw [e1, e2]
      simp only [rd_nat]
      refine Ev.pos (by omega) (Ev.pos (by omega) (Ev.pos (by omega) (Ev.pos (by omega) ?_)))
      rw [rises_step h1 h]
      by_cases hc : es.getD (i - 1) 0 ≥ es.getD i 0
      · refine Ev.pos hc (Ev.some_ ?_)
        rw [decide_eq_false (by omega)]; rfl
      · refine Ev.neg hc ?_
        rw [decide_eq_true (by omega), Bool.true_and]
        exact refSound_l0 lo hi most es hl (d - 1) (i + 1) (by omega) (by omega)
    · refine Ev.neg (by omega) (Ev.some_ ?_)
      rw [rises_end h]; rfl
  termination_by d _ => d
  decreasing_by all_goals omega
theorem refSound_f (lo hi most : Int) (es : List Int) (h1 : -9223372036854775808 ≤ lo ∧ lo ≤ 9223372036854775807) (h2 : -9223372036854775808 ≤ hi ∧ hi ≤ 9223372036854775807) :
    Ev (fun k => offertoryref09_Sound.f k lo hi most es) (soundE lo hi most es) := by
  have hj1 : ∀ b, boundsB lo hi = true → ¬ most < 1 → b = decide (most > 65536) → Ev (fun k => offertoryref09_Sound.j1 k b lo hi most es) (soundE lo hi most es) := by
    intro b hb hm hb'
    subst hb'
    unfold soundE
    refine Ev.succ ?_
    simp only [offertoryref09_Sound.j1, decide_eq_true_eq, hb, if_true, hm, false_or]
    refine Ev.if_ (fun h => ?_) (fun h => ?_)
    · rw [if_pos h]; exact Ev.now _
    · rw [if_neg h]
      refine Ev.if_ (fun h3 => ?_) (fun h3 => ?_)
      · rw [if_neg (by omega)]; exact Ev.now _
      · have h4 := refSound_l0 lo hi most es (by omega) _ 1 rfl (Nat.le_refl _)
        have h5 : es.length ≤ 64 := by omega
        simp only [h5, and_true]
        simpa using h4
  have hj0 : ∀ b, boundsB lo hi = !b → Ev (fun k => offertoryref09_Sound.j0 k b lo hi most es) (soundE lo hi most es) := by
    intro b hb
    refine Ev.succ ?_
    simp only [offertoryref09_Sound.j0]
    cases b with
    | true =>
      simp only [if_true]
      refine Ev.some_ ?_
      unfold soundE
      rw [hb]; rfl
    | false =>
      simp only [Bool.false_eq_true, if_false]
      refine Ev.if_ (fun h => ?_) (fun h => ?_)
      · refine Ev.succ ?_
        simp only [offertoryref09_Sound.j1, if_true]
        refine Ev.some_ ?_
        unfold soundE
        rw [hb]
        simp [h]
      · exact hj1 _ (by rw [hb]; rfl) h rfl
  unfold offertoryref09_Sound.f
  refine Ev.if_ (fun h => hj0 _ ?_) (fun a => Ev.if_ (fun h => hj0 _ ?_) (fun b => Ev.if_ (fun h => hj0 _ ?_) (fun c => hj0 _ ?_)))
  · have : ¬ (-1099511627776 ≤ lo) := by omega
    simp [boundsB, this]
  · have : ¬ (hi ≤ 1099511627776) := by omega
    simp [boundsB, this]
  · have : ¬ (lo ≤ hi) := by omega
    simp [boundsB, this]
  · rw [w64 (by omega)]
    unfold boundsB
    rw [Bool.eq_iff_iff]
    simp only [decide_eq_true_eq, Bool.not_eq_true', decide_eq_false_iff_not]
    omega
/-- What a clamped sample is. -/
def clampV (lo hi x : Int) : Int := mn (mx x lo) hi
theorem clampV_eq {lo hi : Int} (h : lo ≤ hi) (x : Int) : clampV lo hi x = if x < lo then lo else if x > hi then hi else x := by
  unfold clampV mn mx
  split <;> split <;> (try split) <;> (try split) <;> (try split) <;> omega
theorem clampV_in {lo hi : Int} (h : lo ≤ hi) (x : Int) : lo ≤ clampV lo hi x ∧ clampV lo hi x ≤ hi := by
  rw [clampV_eq h]; split <;> (try split) <;> omega
theorem clampV_id {lo hi x : Int} (h1 : lo ≤ x) (h2 : x ≤ hi) : clampV lo hi x = x := by
  rw [clampV_eq (by omega)]; split <;> (try split) <;> omega
set_option linter.unusedSimpArgs false

theorem rises_lt {es : List Int} (h : risesB es = true) : ∀ d s t, t - s = d → s < t → t < es.length → es.getD s 0 < es.getD t 0
  | d, s, t, hd, h1, h2 => by
    have hs := (risesB_iff es).1 h t (by omega) h2
    by_cases h3 : s = t - 1
    · subst h3; exact hs
    · have := rises_lt h (d - 1) s (t - 1) (by omega) (by omega) (by omega)
      omega
  termination_by d _ _ => d
  decreasing_by all_goals omega
/-- The bin of a number: how many edges lie at or below it, ahead of the first one that doesn't. -/
def IsBin (es : List Int) (y : Int) (n : Nat) : Prop := n ≤ es.length ∧ (∀ j, j < n → es.getD j 0 ≤ y) ∧ (n < es.length → y < es.getD n 0)
theorem IsBin.unique {es : List Int} {y : Int} {n m : Nat} (h : IsBin es y n) (h' : IsBin es y m) : n = m := by
  obtain ⟨a, b, c⟩ := h
  obtain ⟨a', b', c'⟩ := h'
  rcases Nat.lt_trichotomy n m with h1 | h1 | h1
  · have := b' n h1; have := c (by omega); omega
  · exact h1
  · have := b m h1; have := c' (by omega); omega
def binN (es : List Int) (y : Int) : Nat := (es.takeWhile (fun e => decide (e ≤ y))).length
theorem binN_is : ∀ (es : List Int) (y : Int), IsBin es y (binN es y)
  | [], y => ⟨Nat.le_refl _, fun j h => by simp [binN] at h, fun h => by simp [binN] at h⟩
  | e :: es, y => by
    by_cases h : e ≤ y
    · have e1 : binN (e :: es) y = binN es y + 1 := by simp [binN, List.takeWhile, h]
      obtain ⟨a, b, c⟩ := binN_is es y
      rw [e1]
      refine ⟨by simpa using a, fun j hj => ?_, fun hn => ?_⟩
      · cases j with
        | zero => simpa using h
        | succ j => simpa using b j (by omega)
      · simpa using c (by simpa using hn)
    · have e1 : binN (e :: es) y = 0 := by simp [binN, List.takeWhile, h]
      rw [e1]
      exact ⟨Nat.zero_le _, fun j hj => by omega, fun _ => by simp; omega⟩
theorem binN_le (es : List Int) (y : Int) : binN es y ≤ es.length := (binN_is es y).1
theorem refClamp_f {lo hi : Int} (h : lo ≤ hi) (most : Int) (es : List Int) (x : Int) : offertoryref09_Clamp.f lo hi most es x = some (clampV lo hi x) := by
  rw [clampV_eq h]; unfold offertoryref09_Clamp.f
  split <;> (try split) <;> rfl
theorem refBin_l0 (lo hi most : Int) (es : List Int) (x : Int) (h0 : lo ≤ hi) (hl : es.length ≤ 64) : ∀ d i : Nat, es.length - i = d → i ≤ es.length → (∀ t, t < i → es.getD t 0 ≤ clampV lo hi x) →
    Ev (fun k => offertoryref09_Bin.l0 k x (i : Int) lo hi most es) (binN es (clampV lo hi x) : Nat)
  | d, i, hd, hi', hlo => by
    refine Ev.succ ?_
    simp only [offertoryref09_Bin.l0, rd_nat]
    by_cases h : i < es.length
    · refine Ev.pos (by omega) (Ev.pos (by omega) (Ev.bind0 (refClamp_f h0 _ _ _) ?_))
      by_cases hc : es.getD i 0 ≤ clampV lo hi x
      · refine Ev.pos hc ?_
        rw [w64 (by omega)]
        exact refBin_l0 lo hi most es x h0 hl (d - 1) (i + 1) (by omega) (by omega) (fun t ht => by
          by_cases h3 : t = i
          · subst h3; exact hc
          · exact hlo t (by omega))
      · refine Ev.neg hc (Ev.some_ ?_)
        have := (binN_is es (clampV lo hi x)).unique (m := i) ⟨by omega, hlo, fun _ => by omega⟩
        rw [this]
    · refine Ev.neg (by omega) (Ev.some_ ?_)
      have := (binN_is es (clampV lo hi x)).unique (m := i) ⟨by omega, hlo, fun hn => by omega⟩
      rw [this]
  termination_by d _ => d
  decreasing_by all_goals omega
theorem refBin_f (lo hi most : Int) (es : List Int) (x : Int) (h0 : lo ≤ hi) (hl : es.length ≤ 64) : Ev (fun k => offertoryref09_Bin.f k lo hi most es x) (binN es (clampV lo hi x) : Nat) :=
  refBin_l0 lo hi most es x h0 hl _ 0 rfl (Nat.zero_le _) (fun t ht => by omega)
/-- One more in a bin. -/
def bump (c : List Int) (n : Nat) : List Int := c.set n (c.getD n 0 + 1)
theorem bump_length (c : List Int) (n : Nat) : (bump c n).length = c.length := by simp [bump]
theorem bump_sum : ∀ (c : List Int) (n : Nat), n < c.length → (bump c n).sum = c.sum + 1
  | a :: c, 0, _ => by simp [bump]; omega
  | a :: c, n + 1, h => by
    have := bump_sum c n (by simpa using h)
    simp only [bump, List.getD_cons_succ, List.set_cons_succ, List.sum_cons] at this ⊢
    omega
theorem bump_in {c : List Int} {n : Nat} {m : Int} (h : ∀ v ∈ c, 0 ≤ v ∧ v ≤ m) (hn : n < c.length) : ∀ v ∈ bump c n, 0 ≤ v ∧ v ≤ m + 1 := by
  intro v hv
  rcases List.mem_or_eq_of_mem_set hv with h1 | h1
  · have := h v h1; omega
  · have h2 := h (c.getD n 0) (by rw [List.getD_eq_getElem?_getD, List.getElem?_eq_getElem hn]; exact List.getElem_mem hn)
    omega
theorem getD_in {c : List Int} {n : Nat} {m : Int} (h : ∀ v ∈ c, 0 ≤ v ∧ v ≤ m) (hn : n < c.length) : 0 ≤ c.getD n 0 ∧ c.getD n 0 ≤ m :=
  h _ (by rw [List.getD_eq_getElem?_getD, List.getElem?_eq_getElem hn]; exact List.getElem_mem hn)
/-- The counts behind some samples more. -/
def counts (lo hi : Int) (es : List Int) (c l : List Int) : List Int := l.foldl (fun c x => bump c (binN es (clampV lo hi x))) c
theorem counts_length (lo hi : Int) (es : List Int) : ∀ (l c : List Int), (counts lo hi es c l).length = c.length
  | [], c => rfl
  | x :: l, c => by
    show (counts lo hi es (bump c _) l).length = _
    rw [counts_length lo hi es l, bump_length]
theorem counts_sum (lo hi : Int) (es : List Int) : ∀ (l c : List Int), c.length = es.length + 1 → (counts lo hi es c l).sum = c.sum + l.length
  | [], c, h => by simp [counts]
  | x :: l, c, h => by
    show (counts lo hi es (bump c _) l).sum = _
    have hb := binN_le es (clampV lo hi x)
    rw [counts_sum lo hi es l _ (by rw [bump_length]; exact h), bump_sum _ _ (by omega)]
    simp only [List.length_cons]; omega
theorem counts_in (lo hi : Int) (es : List Int) : ∀ (l c : List Int) (m : Int), c.length = es.length + 1 → (∀ v ∈ c, 0 ≤ v ∧ v ≤ m) → ∀ v ∈ counts lo hi es c l, 0 ≤ v ∧ v ≤ m + l.length
  | [], c, m, _, h => by simpa [counts] using h
  | x :: l, c, m, hc, h => by
    show ∀ v ∈ counts lo hi es (bump c _) l, _
    have hb := binN_le es (clampV lo hi x)
    have := counts_in lo hi es l (bump c (binN es (clampV lo hi x))) (m + 1) (by rw [bump_length]; exact hc) (bump_in h (by omega))
    intro v hv
    have := this v hv
    simp only [List.length_cons]; omega
theorem counts_append (lo hi : Int) (es c l m : List Int) : counts lo hi es c (l ++ m) = counts lo hi es (counts lo hi es c l) m := by simp [counts, List.foldl_append]
/-- No samples yet. -/
def zeros (es : List Int) : List Int := List.replicate (es.length + 1) 0
theorem zeros_length (es : List Int) : (zeros es).length = es.length + 1 := by simp [zeros]
theorem zeros_in (es : List Int) : ∀ v ∈ zeros es, (0 : Int) ≤ v ∧ v ≤ 0 := by
  intro v hv
  have := (List.mem_replicate.1 hv).2
  omega
theorem zeros_sum (es : List Int) : (zeros es).sum = 0 := by
  unfold zeros
  induction es.length + 1 with
  | zero => rfl
  | succ n ih => rw [List.replicate_succ, List.sum_cons, ih]; rfl
set_option linter.unusedSimpArgs false

/-- The number of a wide one; a number's wide one. -/
def wv (hi lo : Int) : Int := lo + hi * 18446744073709551616
def wd (v : Int) : Int × Int := (v / 18446744073709551616 % 18446744073709551616, v % 18446744073709551616)
def W64 (x : Int) : Prop := 0 ≤ x ∧ x ≤ 18446744073709551615
theorem wd_in (v : Int) : W64 (wd v).1 ∧ W64 (wd v).2 := by simp only [wd, W64]; omega
theorem wv_wd (v : Int) : wv (wd v).1 (wd v).2 = v % 340282366920938463463374607431768211456 := by simp only [wv, wd]; omega
theorem wd_wv {hi lo : Int} (h : W64 hi) (l : W64 lo) : wd (wv hi lo) = (hi, lo) := by
  unfold W64 at h l
  simp only [wv, wd, Prod.mk.injEq]; omega
theorem wd_mod {v u : Int} (h : v % 340282366920938463463374607431768211456 = u % 340282366920938463463374607431768211456) : wd v = wd u := by
  simp only [wd, Prod.mk.injEq]; omega
theorem wd_emod (v : Int) : wd (v % 340282366920938463463374607431768211456) = wd v := wd_mod (by omega)
theorem bD_in (v : Int) (i : Nat) : 0 ≤ bigD v i ∧ bigD v i ≤ 65535 := by unfold bigD; omega
theorem dig_digs (v : Int) : Dig (bigD v 0) (bigD v 1) (bigD v 2) (bigD v 3) (bigD v 4) (bigD v 5) (bigD v 6) (bigD v 7) :=
  ⟨bD_in v 0, bD_in v 1, bD_in v 2, bD_in v 3, bD_in v 4, bD_in v 5, bD_in v 6, bD_in v 7⟩
theorem bV_digs (v : Int) : bigV (bigD v 0) (bigD v 1) (bigD v 2) (bigD v 3) (bigD v 4) (bigD v 5) (bigD v 6) (bigD v 7) = v % 340282366920938463463374607431768211456 := by
  simp only [bigV, bigD]
  omega
theorem digs_eq {v w : Int} (h : v % 340282366920938463463374607431768211456 = w % 340282366920938463463374607431768211456) : digs v = digs w := by
  have key : ∀ x : Int, digs x = digs (x % 340282366920938463463374607431768211456) := by
    intro x
    simp only [digs, bigD, Prod.mk.injEq]
    omega
  rw [key v, key w, h]
theorem of_f {hi lo : Int} (h : W64 hi) (l : W64 lo) : offertoryref09_Of.f hi lo = some (digs (wv hi lo)) := by
  unfold offertoryref09_Of.f
  rw [if_pos ⟨h, l⟩]
  rfl
theorem bigAdd_f (u v : Int) : offertoryref09_Add.f (bigD u 0) (bigD u 1) (bigD u 2) (bigD u 3) (bigD u 4) (bigD u 5) (bigD u 6) (bigD u 7) (bigD v 0) (bigD v 1) (bigD v 2) (bigD v 3) (bigD v 4) (bigD v 5) (bigD v 6) (bigD v 7) = some (digs (u + v)) := by
  unfold offertoryref09_Add.f
  rw [if_pos ⟨dig_digs u, dig_digs v⟩, bV_digs, bV_digs]
  congr 1
  exact digs_eq (by omega)
theorem mod_mul (u v m : Int) : (u % m * (v % m)) % m = (u * v) % m := (Int.mul_emod u v m).symm
theorem bigMul_f (u v : Int) : offertoryref09_Mul.f (bigD u 0) (bigD u 1) (bigD u 2) (bigD u 3) (bigD u 4) (bigD u 5) (bigD u 6) (bigD u 7) (bigD v 0) (bigD v 1) (bigD v 2) (bigD v 3) (bigD v 4) (bigD v 5) (bigD v 6) (bigD v 7) = some (digs (u * v)) := by
  unfold offertoryref09_Mul.f
  rw [if_pos ⟨dig_digs u, dig_digs v⟩, bV_digs, bV_digs]
  congr 1
  exact digs_eq (mod_mul u v _)
theorem bigNeg_f (v : Int) : offertoryref09_Neg.f (bigD v 0) (bigD v 1) (bigD v 2) (bigD v 3) (bigD v 4) (bigD v 5) (bigD v 6) (bigD v 7) = some (digs (-v)) := by
  unfold offertoryref09_Neg.f
  rw [if_pos (dig_digs v), bV_digs]
  congr 1
  exact digs_eq (by omega)
theorem bigWide_f (v : Int) : offertoryref09_Big_Wide.f (bigD v 0) (bigD v 1) (bigD v 2) (bigD v 3) (bigD v 4) (bigD v 5) (bigD v 6) (bigD v 7) = some (wd v) := by
  unfold offertoryref09_Big_Wide.f
  rw [if_pos (dig_digs v)]
  simp only [wd, bigD, Option.some.injEq, Prod.mk.injEq]
  omega
theorem wAdd_f {h1 l1 h2 l2 : Int} (a : W64 h1) (b : W64 l1) (c : W64 h2) (d : W64 l2) : wide_Add.f h1 l1 h2 l2 = some (wd (wv h1 l1 + wv h2 l2)) := by
  unfold W64 at a b c d
  unfold wide_Add.f
  rw [if_pos (by omega)]
  simp only [wd, wv, Option.some.injEq, Prod.mk.injEq]
  omega
theorem wSub_f {h1 l1 h2 l2 : Int} (a : W64 h1) (b : W64 l1) (c : W64 h2) (d : W64 l2) : wide_Sub.f h1 l1 h2 l2 = some (wd (wv h1 l1 - wv h2 l2)) := by
  unfold W64 at a b c d
  unfold wide_Sub.f borrow
  rw [if_pos (by omega)]
  simp only [wd, wv, Option.some.injEq, Prod.mk.injEq]
  split <;> omega
theorem wNeg_f {h1 l1 : Int} (a : W64 h1) (b : W64 l1) : wide_Neg.f h1 l1 = some (wd (- wv h1 l1)) := by
  unfold wide_Neg.f
  rw [wSub_f (by unfold W64; omega) (by unfold W64; omega) a b]
  simp only [Option.bind_some]
  rw [show wv 0 0 - wv h1 l1 = - wv h1 l1 by unfold wv; omega]
theorem add_w (u v : Int) : wide_Add.f (wd u).1 (wd u).2 (wd v).1 (wd v).2 = some (wd (u + v)) := by
  rw [wAdd_f (wd_in u).1 (wd_in u).2 (wd_in v).1 (wd_in v).2, wv_wd, wv_wd]
  congr 1
  exact wd_mod (by omega)
theorem neg_w (u : Int) : wide_Neg.f (wd u).1 (wd u).2 = some (wd (-u)) := by
  rw [wNeg_f (wd_in u).1 (wd_in u).2, wv_wd]
  congr 1
  exact wd_mod (by omega)
/-- A number by 2^128 that counts as below 0. -/
def negB (u : Int) : Bool := decide (170141183460469231731687303715884105728 ≤ u % 340282366920938463463374607431768211456)
/-- A sum without its sign. -/
def resS (u : Int) : Int × Int × Bool := if negB u = true then ((wd (-u)).1, (wd (-u)).2, true) else ((wd u).1, (wd u).2, false)
theorem bigInt_f {x : Int} (h : -9223372036854775808 ≤ x ∧ x ≤ 9223372036854775807) : offertoryref09_Int.f x = some (digs x) := by
  unfold offertoryref09_Int.f
  rw [if_pos h]
def signD (u : Int) : Int × Int × Int × Int × Int × Int × Int × Int × Bool :=
  if negB u = true then (bigD (-u) 0, bigD (-u) 1, bigD (-u) 2, bigD (-u) 3, bigD (-u) 4, bigD (-u) 5, bigD (-u) 6, bigD (-u) 7, true) else (bigD u 0, bigD u 1, bigD u 2, bigD u 3, bigD u 4, bigD u 5, bigD u 6, bigD u 7, false)
theorem neg7 (u : Int) : bigD u 7 ≥ 32768 ↔ negB u = true := by
  unfold negB bigD
  rw [decide_eq_true_eq]
  constructor <;> intro h <;> omega
theorem bigSigned_f (u : Int) : offertoryref09_Signed.f (bigD u 0) (bigD u 1) (bigD u 2) (bigD u 3) (bigD u 4) (bigD u 5) (bigD u 6) (bigD u 7) = some (signD u) := by
  unfold offertoryref09_Signed.f signD
  by_cases h : negB u = true
  · rw [if_pos ((neg7 u).2 h), if_pos h, bigNeg_f]; rfl
  · rw [if_neg (fun x => h ((neg7 u).1 x)), if_neg h]
theorem signWide (u : Int) : (offertoryref09_Big_Wide.f (signD u).1 (signD u).2.1 (signD u).2.2.1 (signD u).2.2.2.1 (signD u).2.2.2.2.1 (signD u).2.2.2.2.2.1 (signD u).2.2.2.2.2.2.1 (signD u).2.2.2.2.2.2.2.1) = some ((resS u).1, (resS u).2.1) := by
  unfold signD resS
  split
  · exact bigWide_f (-u)
  · exact bigWide_f u
theorem signBool (u : Int) : (signD u).2.2.2.2.2.2.2.2 = (resS u).2.2 := by unfold signD resS; split <;> rfl
/-- The sum of the samples as they count; of their squares. -/
def sumC (lo hi : Int) (l : List Int) : Int := (l.map (clampV lo hi)).sum
def sqC (lo hi : Int) (l : List Int) : Int := (l.map fun x => clampV lo hi x * clampV lo hi x).sum
theorem sumC_cons (lo hi x : Int) (l : List Int) : sumC lo hi (x :: l) = clampV lo hi x + sumC lo hi l := by simp [sumC]
theorem sqC_cons (lo hi x : Int) (l : List Int) : sqC lo hi (x :: l) = clampV lo hi x * clampV lo hi x + sqC lo hi l := by simp [sqC]
theorem drop_get {l : List Int} {i : Nat} (h : i < l.length) : l.drop i = l.getD i 0 :: l.drop (i + 1) := by
  rw [List.drop_eq_getElem_cons h]
  simp [List.getD, List.getElem?_eq_getElem h]
def statsV (lo hi : Int) (es c l : List Int) (n S Q : Int) : List Int × Int × Int × Int × Int × Int × Bool :=
  (counts lo hi es c l, n, (resS (S + sumC lo hi l)).1, (resS (S + sumC lo hi l)).2.1, (wd (Q + sqC lo hi l)).1, (wd (Q + sqC lo hi l)).2, (resS (S + sumC lo hi l)).2.2)
theorem statsV_nil (lo hi : Int) (es c : List Int) (n S Q : Int) : statsV lo hi es c [] n S Q = (c, n, (resS S).1, (resS S).2.1, (wd Q).1, (wd Q).2, (resS S).2.2) := by
  have e1 : sumC lo hi [] = 0 := rfl
  have e2 : sqC lo hi [] = 0 := rfl
  unfold statsV
  rw [e1, e2, Int.add_zero, Int.add_zero]
  rfl
theorem statsV_cons (lo hi : Int) (es c l : List Int) (x n S Q : Int) : statsV lo hi es c (x :: l) n S Q = statsV lo hi es (bump c (binN es (clampV lo hi x))) l n (S + clampV lo hi x) (Q + clampV lo hi x * clampV lo hi x) := by
  unfold statsV
  rw [sumC_cons, sqC_cons, ← Int.add_assoc, ← Int.add_assoc]
  rfl
theorem refStats_l0 (lo hi most : Int) (es l : List Int) (cnt : Int) (hs : soundE lo hi most es = 0) (hlm : l.length ≤ 1000000) : ∀ (d i : Nat) (c : List Int) (S Q : Int), l.length - i = d → i ≤ l.length → c.length = es.length + 1 → (∀ v ∈ c, 0 ≤ v ∧ v ≤ (i : Int)) →
    Ev (fun k => offertoryref09_Stats.l0 k l (i : Int) lo hi most es c cnt 0 0 0 0 false (bigD S 0) (bigD S 1) (bigD S 2) (bigD S 3) (bigD S 4) (bigD S 5) (bigD S 6) (bigD S 7) (bigD Q 0) (bigD Q 1) (bigD Q 2) (bigD Q 3) (bigD Q 4) (bigD Q 5) (bigD Q 6) (bigD Q 7)) (statsV lo hi es c (l.drop i) cnt S Q)
  | d, i, c, S, Q, hd, hi', hc, hin => by
    obtain ⟨a1, a2, a3, a4, a5, a6, a7, a8⟩ := sound0 hs
    refine Ev.succ ?_
    simp only [offertoryref09_Stats.l0, rd_nat]
    by_cases h : i < l.length
    · have hb := binN_le es (clampV lo hi (l.getD i 0))
      have hf := refBin_f lo hi most es (l.getD i 0) a3 a8
      have hcv := clampV_in a3 (l.getD i 0)
      have hw := bigInt_f (x := clampV lo hi (l.getD i 0)) (by omega)
      refine Ev.pos (by omega) (Ev.pos (by omega) (Ev.bind hf (Ev.pos (by omega) (Ev.pos (by omega) (Ev.bind0 (refClamp_f a3 most es _) (Ev.bind0 hw (Ev.bind0 (bigAdd_f S _) (Ev.bind0 (bigMul_f _ _) (Ev.bind0 (bigAdd_f Q _) ?_)))))))))
      have hg := getD_in hin (n := binN es (clampV lo hi (l.getD i 0))) (by omega)
      rw [rd_nat, w64 (x := (i : Int) + 1) (by omega), w64 (by omega)]
      have ih := refStats_l0 lo hi most es l cnt hs hlm (d - 1) (i + 1) (bump c (binN es (clampV lo hi (l.getD i 0)))) (S + clampV lo hi (l.getD i 0)) (Q + clampV lo hi (l.getD i 0) * clampV lo hi (l.getD i 0)) (by omega) (by omega) (by rw [bump_length]; exact hc) (by
        have := bump_in hin (n := binN es (clampV lo hi (l.getD i 0))) (by omega)
        intro v hv
        have := this v hv
        omega)
      rw [drop_get h, statsV_cons]
      exact ih
    · refine Ev.neg (by omega) (Ev.bind0 (bigWide_f Q) (Ev.bind0 (bigSigned_f S) (Ev.bind0 (signWide S) (Ev.some_ ?_))))
      rw [List.drop_eq_nil_of_le (by omega), statsV_nil, signBool]
  termination_by d _ _ _ _ => d
  decreasing_by all_goals omega
theorem refStats_f (lo hi most : Int) (es l : List Int) (hs : soundE lo hi most es = 0) (hlm : l.length ≤ 1000000) : Ev (fun k => offertoryref09_Stats.f k lo hi most es l) (statsV lo hi es (zeros es) l l.length 0 0) := by
  obtain ⟨a1, a2, a3, a4, a5, a6, a7, a8⟩ := sound0 hs
  unfold offertoryref09_Stats.f
  rw [w64 (by omega)]
  refine Ev.pos (by omega) (Ev.pos (by omega) ?_)
  have := refStats_l0 lo hi most es l l.length hs hlm _ 0 (zeros es) 0 0 rfl (Nat.zero_le _) (zeros_length es) (zeros_in es)
  rw [show ((es.length : Int) + 1).toNat = es.length + 1 by omega]
  exact this
/-- The rest of two lists is one. -/
theorem drop_eq {a b : List Int} {i : Nat} (ha : i < a.length) (hb : i < b.length) : a.drop i = b.drop i ↔ a.getD i 0 = b.getD i 0 ∧ a.drop (i + 1) = b.drop (i + 1) := by
  rw [List.drop_eq_getElem_cons ha, List.drop_eq_getElem_cons hb]
  rw [List.cons.injEq]
  simp only [List.getD, List.getElem?_eq_getElem ha, List.getElem?_eq_getElem hb, Option.getD_some]
/-- The stats beside the bins are one. -/
def restB (c1 s1 t1 q1 r1 : Int) (b1 : Bool) (c2 s2 t2 q2 r2 : Int) (b2 : Bool) : Bool := decide (c1 = c2) && ((s1 == s2 && t1 == t2) && ((q1 == q2 && r1 == r2) && (b1 == b2)))
def sameB (l1 : List Int) (c1 s1 t1 q1 r1 : Int) (b1 : Bool) (l2 : List Int) (c2 s2 t2 q2 r2 : Int) (b2 : Bool) : Bool := decide (l1 = l2) && restB c1 s1 t1 q1 r1 b1 c2 s2 t2 q2 r2 b2
theorem rest_f (c1 s1 t1 q1 r1 : Int) (b1 : Bool) (c2 s2 t2 q2 r2 : Int) (b2 : Bool) :
    (if c1 = c2 then (if (s1 == s2 && (t1 == t2)) = true then (if (q1 == q2 && (r1 == r2)) = true then (some (b1 == b2)) else (some false)) else (some false)) else (some false)) = some (restB c1 s1 t1 q1 r1 b1 c2 s2 t2 q2 r2 b2) := by
  unfold restB
  by_cases h : c1 = c2
  · rw [if_pos h, decide_eq_true h, Bool.true_and]
    cases (s1 == s2 && t1 == t2)
    · rfl
    · cases (q1 == q2 && r1 == r2) <;> rfl
  · rw [if_neg h, decide_eq_false h]; rfl
theorem refSame_l0 (l1 : List Int) (c1 s1 t1 q1 r1 : Int) (b1 : Bool) (l2 : List Int) (c2 s2 t2 q2 r2 : Int) (b2 : Bool) (hl : l1.length = l2.length) (hm : l1.length ≤ 9223372036854775806) : ∀ d i : Nat, i + d = l1.length →
    Ev (fun k => offertoryref09_Same.l0 k (i : Int) l1 c1 s1 t1 q1 r1 b1 l2 c2 s2 t2 q2 r2 b2) (decide (l1.drop i = l2.drop i) && restB c1 s1 t1 q1 r1 b1 c2 s2 t2 q2 r2 b2) := by
  intro d
  induction d with
  | zero =>
    intro i hi
    refine Ev.succ ?_
    simp only [offertoryref09_Same.l0]
    refine Ev.neg (by omega) ?_
    rw [List.drop_eq_nil_of_le (by omega), List.drop_eq_nil_of_le (by omega)]
    simp only [rest_f]
    exact Ev.some_ rfl
  | succ d ih =>
    intro i hi
    refine Ev.succ ?_
    simp only [offertoryref09_Same.l0, rd_nat]
    refine Ev.pos (by omega) (Ev.pos (by omega) (Ev.pos (by omega) ?_))
    have he := drop_eq (a := l1) (b := l2) (i := i) (by omega) (by omega)
    refine Ev.if_ (fun h => ?_) (fun h => Ev.some_ ?_)
    · rw [w64 (by omega)]
      have := ih (i + 1) (by omega)
      rw [show decide (l1.drop i = l2.drop i) = decide (l1.drop (i + 1) = l2.drop (i + 1)) from decide_eq_decide.2 (by rw [he]; exact ⟨fun x => x.2, fun x => ⟨h, x⟩⟩)]
      exact this
    · rw [decide_eq_false, Bool.false_and]
      rw [he]
      exact fun x => h x.1
theorem refSame_f (l1 : List Int) (c1 s1 t1 q1 r1 : Int) (b1 : Bool) (l2 : List Int) (c2 s2 t2 q2 r2 : Int) (b2 : Bool) (hm : l1.length ≤ 9223372036854775806) :
    Ev (fun k => offertoryref09_Same.f k l1 c1 s1 t1 q1 r1 b1 l2 c2 s2 t2 q2 r2 b2) (sameB l1 c1 s1 t1 q1 r1 b1 l2 c2 s2 t2 q2 r2 b2) := by
  unfold offertoryref09_Same.f
  refine Ev.if_ (fun h => ?_) (fun h => Ev.some_ ?_)
  · have := refSame_l0 l1 c1 s1 t1 q1 r1 b1 l2 c2 s2 t2 q2 r2 b2 (by omega) hm l1.length 0 (by omega)
    rw [List.drop_zero, List.drop_zero] at this
    exact this
  · unfold sameB
    rw [decide_eq_false, Bool.false_and]
    rintro rfl
    exact h rfl
theorem sameB_self (l : List Int) (c s t q r : Int) (b : Bool) : sameB l c s t q r b l c s t q r b = true := by simp [sameB, restB]
end Go.Proofs.Yticihbccflflfaa.Plain
