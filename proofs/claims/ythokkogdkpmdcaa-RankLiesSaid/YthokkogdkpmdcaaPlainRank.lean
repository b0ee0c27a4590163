/- What the plans' checks, the bins and a bin's bounds come to, in plain numbers. -/
import Derived.Test.YthokkogdkpmdcaaPAllx1
import Derived.Test.YthokkogdkpmdcaaPAllx2
import Derived.Test.YthokkogdkpmdcaaPAllx3
import Derived.Test.YthokkogdkpmdcaaPAllx4
import Derived.Test.YthokkogdkpmdcaaPAllx5
import Derived.Test.YthokkogdkpmdcaaPAllx6
import Derived.Test.YthokkogdkpmdcaaPAllx7
import Derived.Test.YthokkogdkpmdcaaPAllx8
import Derived.Test.YthokkogdkpmdcaaPAllx10

import Derived.Test.YthokkogdkpmdcaaBase
namespace Go.Proofs.Ythokkogdkpmdcaa.Plain
open Go.RowKit Go.Proofs.Ythokkogdkpmdcaa.PAll Go.Proofs.Ythokkogdkpmdcaa.Opn Go.Proofs.Ythokkogdkpmdcaa.Base Go.Proofs.YthokkogdkpmdcaaW.PrintWords Go.Proofs.YthokkogdkpmdcaaW.PrintLast Go.Proofs.YthokkogdkpmdcaaW.PrintMore
set_option linter.unusedVariables false
set_option linter.unusedSimpArgs false

/-- A list rises. -/
def risesB : List Int → Bool
  | a :: b :: l => decide (a < b) && risesB (b :: l)
  | _ => true
theorem risesB_iff : ∀ l : List Int, risesB l = true ↔ ∀ j, 1 ≤ j → j < l.length → l.getD (j - 1) 0 < l.getD j 0
  | [] => by simp [risesB]
  | [a] => by simp [risesB]; intro j h1 h2; omega
  | a :: b :: l => by
    simp only [risesB, Bool.and_eq_true, decide_eq_true_eq]
    rw [risesB_iff (b :: l)]
    constructor
    · rintro ⟨h0, h⟩ j h1 h2
      match j, h1 with
      | 1, _ => simpa using h0
      | j + 2, _ =>
        have := h (j + 1) (by omega) (by simpa using h2)
        simpa using this
    · intro h
      refine ⟨by simpa using h 1 (by omega) (by simp), fun j h1 h2 => ?_⟩
      match j, h1 with
      | j + 1, _ =>
        have := h (j + 2) (by omega) (by simpa using h2)
        simpa using this

def boundsB (lo hi : Int) : Bool := decide (-1099511627776 ≤ lo ∧ hi ≤ 1099511627776 ∧ lo ≤ hi ∧ hi - lo < 1099511627776)
/-- What a plan's check answers. -/
def soundE (lo hi most : Int) (es : List Int) : Int :=
  if boundsB lo hi = true then (if most < 1 ∨ most > 65536 then 9 else if risesB es = true ∧ es.length ≤ 64 then 0 else 10) else 4

theorem sound0 {lo hi most : Int} {es : List Int} (h : soundE lo hi most es = 0) : -1099511627776 ≤ lo ∧ hi ≤ 1099511627776 ∧ lo ≤ hi ∧ hi - lo < 1099511627776 ∧ 1 ≤ most ∧ most ≤ 65536 ∧ risesB es = true ∧ es.length ≤ 64 := by
  unfold soundE at h
  split at h
  · rename_i hb
    split at h
    · simp at h
    · split at h
      · rename_i h1 h2
        have := of_decide_eq_true hb
        obtain ⟨h3, h4⟩ := h2
        exact ⟨by omega, by omega, by omega, by omega, by omega, by omega, h3, h4⟩
      · simp at h
  · simp at h

theorem bounds_f (lo hi most : Int) (es : List Int) (h1 : -9223372036854775808 ≤ lo ∧ lo ≤ 9223372036854775807) (h2 : -9223372036854775808 ≤ hi ∧ hi ≤ 9223372036854775807) : clamp_plan_bounds.f lo hi most es = some (boundsB lo hi) := by
  unfold clamp_plan_bounds.f boundsB
  by_cases a : lo ≥ -1099511627776
  · by_cases b : hi ≤ 1099511627776
    · by_cases c : lo ≤ hi
      · rw [if_pos a, if_pos b, if_pos c, w64 (by omega)]
        simp [a, b, c]
      · rw [if_pos a, if_pos b, if_neg c]
        simp [c]
    · rw [if_pos a, if_neg b]
      simp [b]
  · rw [if_neg a]
    have : ¬ (-1099511627776 ≤ lo) := a
    simp [this]

theorem rises_step {es : List Int} {i : Nat} (h1 : 1 ≤ i) (h : i < es.length) : risesB (es.drop (i - 1)) = (decide (es.getD (i - 1) 0 < es.getD i 0) && risesB (es.drop i)) := by
  have h0 : i - 1 < es.length := by omega
  rw [List.drop_eq_getElem_cons h0, show i - 1 + 1 = i by omega, List.drop_eq_getElem_cons h]
  simp [risesB, List.getD, List.getElem?_eq_getElem h0, List.getElem?_eq_getElem h]
theorem rises_end {es : List Int} {i : Nat} (h : ¬ i < es.length) : risesB (es.drop (i - 1)) = true := by
  have h0 : (es.drop (i - 1)).length ≤ 1 := by rw [List.length_drop]; omega
  match es.drop (i - 1), h0 with
  | [], _ => rfl
  | [a], _ => rfl
theorem rising_l0 (lo hi most : Int) (es : List Int) (hl : es.length ≤ 9223372036854775806) : ∀ d i : Nat, es.length - i = d → 1 ≤ i →
    Ev (fun k => clamp_plan_rising.l0 k (i : Int) lo hi most es) (risesB (es.drop (i - 1)) && decide (es.length ≤ 64))
  | d, i, hd, h1 => by
    refine Ev.succ ?_
    simp only [clamp_plan_rising.l0]
    by_cases h : i < es.length
    · have e1 : wrap64 ((i : Int) - 1) = ((i - 1 : Nat) : Int) := by rw [w64 (by omega)]; omega
      have e2 : wrap64 ((i : Int) + 1) = ((i + 1 : Nat) : Int) := by rw [w64 (by omega)]; omega
      rw [e1, e2]
      simp only [rd_nat]
      refine Ev.pos (by omega) (Ev.pos (by omega) (Ev.pos (by omega) (Ev.pos (by omega) ?_)))
      rw [rises_step h1 h]
      by_cases hc : es.getD i 0 ≤ es.getD (i - 1) 0
      · refine Ev.pos hc (Ev.some_ ?_)
        rw [decide_eq_false (by omega)]; rfl
      · refine Ev.neg hc ?_
        rw [decide_eq_true (by omega), Bool.true_and]
        exact rising_l0 lo hi most es hl (d - 1) (i + 1) (by omega) (by omega)
    · refine Ev.neg (by omega) (Ev.some_ ?_)
      rw [rises_end h, Bool.true_and]
      exact decide_eq_decide.2 (by omega)
  termination_by d _ => d
  decreasing_by all_goals omega

theorem rising_f (lo hi most : Int) (es : List Int) (hl : es.length ≤ 9223372036854775806) : Ev (fun k => clamp_plan_rising.f k lo hi most es) (risesB es && decide (es.length ≤ 64)) :=
  rising_l0 lo hi most es hl _ 1 rfl (Nat.le_refl _)

theorem sound_f (lo hi most : Int) (es : List Int) (hl : es.length ≤ 9223372036854775806) (h1 : -9223372036854775808 ≤ lo ∧ lo ≤ 9223372036854775807) (h2 : -9223372036854775808 ≤ hi ∧ hi ≤ 9223372036854775807) :
    Ev (fun k => clamp_Sound.f k lo hi most es) (soundE lo hi most es) := by
  unfold clamp_Sound.f soundE
  refine Ev.bind0 (bounds_f lo hi most es h1 h2) ?_
  by_cases hb : boundsB lo hi = true
  · simp only [hb, if_true]
    by_cases hm : most < 1
    · simp only [hm, if_true, true_or]
      refine Ev.succ ?_
      simp only [clamp_Sound.j0, if_true]
      exact Ev.now _
    · simp only [hm, if_false, false_or]
      refine Ev.succ ?_
      simp only [clamp_Sound.j0, decide_eq_true_eq]
      refine Ev.if_ (fun h => ?_) (fun h => ?_)
      · rw [if_pos h]; exact Ev.now _
      · rw [if_neg h]
        refine Ev.bind (rising_f lo hi most es hl) ?_
        simp only [Bool.and_eq_true, decide_eq_true_eq]
        by_cases hr : risesB es = true ∧ es.length ≤ 64
        · simp only [hr, and_self, if_true]; exact Ev.now _
        · simp only [hr, if_false]; exact Ev.now _
  · simp only [hb, Bool.false_eq_true, if_false]
    exact Ev.now _

theorem refSound_l0 (lo hi most : Int) (es : List Int) (hl : es.length ≤ 64) : ∀ d i : Nat, es.length - i = d → 1 ≤ i →
    Ev (fun k => offertoryref09_Sound.l0 k (i : Int) lo hi most es) (if risesB (es.drop (i - 1)) = true then 0 else 10)
  | d, i, hd, h1 => by
    refine Ev.succ ?_
    simp only [offertoryref09_Sound.l0]
    by_cases h : i < es.length
    · have e1 : wrap64 ((i : Int) - 1) = ((i - 1 : Nat) : Int) := by rw [w64 (by omega)]; omega
      have e2 : wrap64 ((i : Int) + 1) = ((i + 1 : Nat) : Int) := by rw [w64 (by omega)]; omega
      rw [e1, e2]
      simp only [rd_nat]
      refine Ev.pos (by omega) (Ev.pos (by omega) (Ev.pos (by omega) (Ev.pos (by omega) ?_)))
      rw [rises_step h1 h]
      by_cases hc : es.getD (i - 1) 0 ≥ es.getD i 0
      · refine Ev.pos hc (Ev.some_ ?_)
        rw [decide_eq_false (by omega)]; rfl
      · refine Ev.neg hc ?_
        rw [decide_eq_true (by omega), Bool.true_and]
        exact refSound_l0 lo hi most es hl (d - 1) (i + 1) (by omega) (by omega)
    · refine Ev.neg (by omega) (Ev.some_ ?_)
      rw [rises_end h]; rfl
  termination_by d _ => d
  decreasing_by all_goals omega

theorem refSound_f (lo hi most : Int) (es : List Int) (h1 : -9223372036854775808 ≤ lo ∧ lo ≤ 9223372036854775807) (h2 : -9223372036854775808 ≤ hi ∧ hi ≤ 9223372036854775807) :
    Ev (fun k => offertoryref09_Sound.f k lo hi most es) (soundE lo hi most es) := by
  have hj1 : ∀ b, boundsB lo hi = true → ¬ most < 1 → b = decide (most > 65536) → Ev (fun k => offertoryref09_Sound.j1 k b lo hi most es) (soundE lo hi most es) := by
    intro b hb hm hb'
    subst hb'
    unfold soundE
    refine Ev.succ ?_
    simp only [offertoryref09_Sound.j1, decide_eq_true_eq, hb, if_true, hm, false_or]
    refine Ev.if_ (fun h => ?_) (fun h => ?_)
    · rw [if_pos h]; exact Ev.now _
    · rw [if_neg h]
      refine Ev.if_ (fun h3 => ?_) (fun h3 => ?_)
      · rw [if_neg (by omega)]; exact Ev.now _
      · have h4 := refSound_l0 lo hi most es (by omega) _ 1 rfl (Nat.le_refl _)
        have h5 : es.length ≤ 64 := by omega
        simp only [h5, and_true]
        simpa using h4
  have hj0 : ∀ b, boundsB lo hi = !b → Ev (fun k => offertoryref09_Sound.j0 k b lo hi most es) (soundE lo hi most es) := by
    intro b hb
    refine Ev.succ ?_
    simp only [offertoryref09_Sound.j0]
    cases b with
    | true =>
      simp only [if_true]
      refine Ev.some_ ?_
      unfold soundE
      rw [hb]; rfl
    | false =>
      simp only [Bool.false_eq_true, if_false]
      refine Ev.if_ (fun h => ?_) (fun h => ?_)
      · refine Ev.succ ?_
        simp only [offertoryref09_Sound.j1, if_true]
        refine Ev.some_ ?_
        unfold soundE
        rw [hb]
        simp [h]
      · exact hj1 _ (by rw [hb]; rfl) h rfl
  unfold offertoryref09_Sound.f
  refine Ev.if_ (fun h => hj0 _ ?_) (fun a => Ev.if_ (fun h => hj0 _ ?_) (fun b => Ev.if_ (fun h => hj0 _ ?_) (fun c => hj0 _ ?_)))
  · have : ¬ (-1099511627776 ≤ lo) := by omega
    simp [boundsB, this]
  · have : ¬ (hi ≤ 1099511627776) := by omega
    simp [boundsB, this]
  · have : ¬ (lo ≤ hi) := by omega
    simp [boundsB, this]
  · rw [w64 (by omega)]
    unfold boundsB
    rw [Bool.eq_iff_iff]
    simp only [decide_eq_true_eq, Bool.not_eq_true', decide_eq_false_iff_not]
    omega

/-- What a clamped sample is. -/
def clampV (lo hi x : Int) : Int := mn (mx x lo) hi
theorem clampV_eq {lo hi : Int} (h : lo ≤ hi) (x : Int) : clampV lo hi x = if x < lo then lo else if x > hi then hi else x := by
  unfold clampV mn mx
  split <;> split <;> (try split) <;> (try split) <;> (try split) <;> omega
theorem clampV_in {lo hi : Int} (h : lo ≤ hi) (x : Int) : lo ≤ clampV lo hi x ∧ clampV lo hi x ≤ hi := by
  rw [clampV_eq h]; split <;> (try split) <;> omega
theorem clampV_id {lo hi x : Int} (h1 : lo ≤ x) (h2 : x ≤ hi) : clampV lo hi x = x := by
  rw [clampV_eq (by omega)]; split <;> (try split) <;> omega

theorem rises_lt {es : List Int} (h : risesB es = true) : ∀ d s t, t - s = d → s < t → t < es.length → es.getD s 0 < es.getD t 0
  | d, s, t, hd, h1, h2 => by
    have hs := (risesB_iff es).1 h t (by omega) h2
    by_cases h3 : s = t - 1
    · subst h3; exact hs
    · have := rises_lt h (d - 1) s (t - 1) (by omega) (by omega) (by omega)
      omega
  termination_by d _ _ => d
  decreasing_by all_goals omega

/-- The bin of a number: how many edges lie at or below it, ahead of the first one that doesn't. -/
def IsBin (es : List Int) (y : Int) (n : Nat) : Prop := n ≤ es.length ∧ (∀ j, j < n → es.getD j 0 ≤ y) ∧ (n < es.length → y < es.getD n 0)
theorem IsBin.unique {es : List Int} {y : Int} {n m : Nat} (h : IsBin es y n) (h' : IsBin es y m) : n = m := by
  obtain ⟨a, b, c⟩ := h
  obtain ⟨a', b', c'⟩ := h'
  rcases Nat.lt_trichotomy n m with h1 | h1 | h1
  · have := b' n h1; have := c (by omega); omega
  · exact h1
  · have := b m h1; have := c' (by omega); omega
def binN (es : List Int) (y : Int) : Nat := (es.takeWhile (fun e => decide (e ≤ y))).length
theorem binN_is : ∀ (es : List Int) (y : Int), IsBin es y (binN es y)
  | [], y => ⟨Nat.le_refl _, fun j h => by simp [binN] at h, fun h => by simp [binN] at h⟩
  | e :: es, y => by
    by_cases h : e ≤ y
    · have e1 : binN (e :: es) y = binN es y + 1 := by simp [binN, List.takeWhile, h]
      obtain ⟨a, b, c⟩ := binN_is es y
      rw [e1]
      refine ⟨by simpa using a, fun j hj => ?_, fun hn => ?_⟩
      · cases j with
        | zero => simpa using h
        | succ j => simpa using b j (by omega)
      · simpa using c (by simpa using hn)
    · have e1 : binN (e :: es) y = 0 := by simp [binN, List.takeWhile, h]
      rw [e1]
      exact ⟨Nat.zero_le _, fun j hj => by omega, fun _ => by simp; omega⟩
theorem binN_le (es : List Int) (y : Int) : binN es y ≤ es.length := (binN_is es y).1
theorem binN_mono {es : List Int} {x y : Int} (h : x ≤ y) : binN es x ≤ binN es y := by
  obtain ⟨a, b, c⟩ := binN_is es x
  obtain ⟨a', b', c'⟩ := binN_is es y
  rcases Nat.lt_or_ge (binN es y) (binN es x) with h1 | h1
  · have := b _ h1; have := c' (by omega); omega
  · exact h1

theorem refClamp_f {lo hi : Int} (h : lo ≤ hi) (most : Int) (es : List Int) (x : Int) : offertoryref09_Clamp.f lo hi most es x = some (clampV lo hi x) := by
  rw [clampV_eq h]; unfold offertoryref09_Clamp.f
  split <;> (try split) <;> rfl
theorem refBin_l0 (lo hi most : Int) (es : List Int) (x : Int) (h0 : lo ≤ hi) (hl : es.length ≤ 64) : ∀ d i : Nat, es.length - i = d → i ≤ es.length → (∀ t, t < i → es.getD t 0 ≤ clampV lo hi x) →
    Ev (fun k => offertoryref09_Bin.l0 k x (i : Int) lo hi most es) (binN es (clampV lo hi x) : Nat)
  | d, i, hd, hi', hlo => by
    refine Ev.succ ?_
    simp only [offertoryref09_Bin.l0, rd_nat]
    by_cases h : i < es.length
    · refine Ev.pos (by omega) (Ev.pos (by omega) (Ev.bind0 (refClamp_f h0 _ _ _) ?_))
      by_cases hc : es.getD i 0 ≤ clampV lo hi x
      · refine Ev.pos hc ?_
        rw [w64 (by omega)]
        exact refBin_l0 lo hi most es x h0 hl (d - 1) (i + 1) (by omega) (by omega) (fun t ht => by
          by_cases h3 : t = i
          · subst h3; exact hc
          · exact hlo t (by omega))
      · refine Ev.neg hc (Ev.some_ ?_)
        have := (binN_is es (clampV lo hi x)).unique (m := i) ⟨by omega, hlo, fun _ => by omega⟩
        rw [this]
    · refine Ev.neg (by omega) (Ev.some_ ?_)
      have := (binN_is es (clampV lo hi x)).unique (m := i) ⟨by omega, hlo, fun hn => by omega⟩
      rw [this]
  termination_by d _ => d
  decreasing_by all_goals omega
theorem refBin_f (lo hi most : Int) (es : List Int) (x : Int) (h0 : lo ≤ hi) (hl : es.length ≤ 64) : Ev (fun k => offertoryref09_Bin.f k lo hi most es x) (binN es (clampV lo hi x) : Nat) :=
  refBin_l0 lo hi most es x h0 hl _ 0 rfl (Nat.zero_le _) (fun t ht => by omega)

/-- The bounds of a bin. -/
def lowB (lo : Int) (es : List Int) (b : Nat) : Int := if 0 < b then mx lo (es.getD (b - 1) 0) else lo
def highB (hi : Int) (es : List Int) (b : Nat) : Int := if b < es.length ∧ es.getD b 0 ≤ hi then es.getD b 0 - 1 else hi
def boundsR (lo hi : Int) (es : List Int) (b : Nat) : Int × Int × Int := if lowB lo es b > highB hi es b then (0, 0, 7) else (lowB lo es b, highB hi es b, 0)
theorem bin_iff {es : List Int} (hr : risesB es = true) {b : Nat} (hb : b ≤ es.length) (y : Int) : binN es y = b ↔ (0 < b → es.getD (b - 1) 0 ≤ y) ∧ (b < es.length → y < es.getD b 0) := by
  constructor
  · intro h
    obtain ⟨h1, h2, h3⟩ := binN_is es y
    rw [h] at h1 h2 h3
    exact ⟨fun h0 => h2 (b - 1) (by omega), h3⟩
  · rintro ⟨h1, h2⟩
    refine (binN_is es y).unique ⟨hb, fun j hj => ?_, h2⟩
    by_cases e : j = b - 1
    · rw [e]; exact h1 (by omega)
    · have := rises_lt hr _ j (b - 1) rfl (by omega) (by omega)
      have := h1 (by omega)
      omega
theorem in_iff {lo hi : Int} {es : List Int} (hr : risesB es = true) {b : Nat} (hb : b ≤ es.length) {y : Int} (h1 : lo ≤ y) (h2 : y ≤ hi) : binN es y = b ↔ lowB lo es b ≤ y ∧ y ≤ highB hi es b := by
  rw [bin_iff hr hb]
  unfold lowB highB mx
  constructor
  · rintro ⟨h3, h4⟩
    constructor
    · split
      · have := h3 (by omega)
        split <;> omega
      · omega
    · split
      · rename_i h; have := h4 h.1; omega
      · omega
  · rintro ⟨h3, h4⟩
    constructor
    · intro h0
      rw [if_pos h0] at h3
      split at h3 <;> omega
    · intro h0
      split at h4
      · omega
      · rename_i h
        have : ¬ es.getD b 0 ≤ hi := fun h5 => h ⟨h0, h5⟩
        omega
theorem lowB_ge (lo : Int) (es : List Int) (b : Nat) : lo ≤ lowB lo es b := by
  unfold lowB mx
  split
  · split <;> omega
  · omega
theorem highB_le (hi : Int) (es : List Int) (b : Nat) : highB hi es b ≤ hi := by
  unfold highB
  split <;> omega
theorem some_bin {lo hi : Int} {es : List Int} (h0 : lo ≤ hi) (hr : risesB es = true) {b : Nat} (hb : b ≤ es.length) (h1 : binN es lo ≤ b) (h2 : b ≤ binN es hi) : lowB lo es b ≤ highB hi es b := by
  obtain ⟨l1, l2, l3⟩ := binN_is es lo
  obtain ⟨m1, m2, m3⟩ := binN_is es hi
  have k1 : b < es.length → lo < es.getD b 0 := by
    intro hl
    by_cases e : binN es lo = b
    · rw [e] at l3; exact l3 hl
    · have := l3 (by omega)
      have := rises_lt hr _ (binN es lo) b rfl (by omega) hl
      omega
  have k2 : 0 < b → es.getD (b - 1) 0 ≤ hi := fun hp => m2 (b - 1) (by omega)
  have k3 : 0 < b → b < es.length → es.getD (b - 1) 0 < es.getD b 0 := fun hp hl => rises_lt hr _ (b - 1) b rfl (by omega) hl
  unfold lowB highB mx
  split
  · have := k2 (by omega)
    split <;> split
    all_goals (try (rename_i h; have := k1 h.1; have := k3 (by omega) h.1))
    all_goals omega
  · split
    · rename_i h; have := k1 h.1; omega
    · omega
theorem no_bin {lo hi : Int} {es : List Int} (h0 : lo ≤ hi) (hr : risesB es = true) {b : Nat} (hb : b ≤ es.length) (h : b < binN es lo ∨ binN es hi < b) : lowB lo es b > highB hi es b := by
  obtain ⟨l1, l2, l3⟩ := binN_is es lo
  obtain ⟨m1, m2, m3⟩ := binN_is es hi
  rcases h with h | h
  · have h5 := l2 b h
    have := lowB_ge lo es b
    have : highB hi es b = es.getD b 0 - 1 := by unfold highB; rw [if_pos ⟨by omega, by omega⟩]
    omega
  · have h6 : hi < es.getD (b - 1) 0 := by
      by_cases e : binN es hi = b - 1
      · rw [e] at m3; exact m3 (by omega)
      · have := m3 (by omega)
        have := rises_lt hr _ (binN es hi) (b - 1) rfl (by omega) (by omega)
        omega
    have := highB_le hi es b
    have : es.getD (b - 1) 0 ≤ lowB lo es b := by
      unfold lowB mx
      rw [if_pos (by omega)]
      split <;> omega
    omega
theorem rbounds_f (lo hi most : Int) (es : List Int) (b : Nat) (hs : soundE lo hi most es = 0) (hb : b ≤ es.length) (h1 : -9223372036854775808 ≤ lo ∧ lo ≤ 9223372036854775807) (h2 : -9223372036854775808 ≤ hi ∧ hi ≤ 9223372036854775807)
    (hes : ∀ j, -9223372036854775808 ≤ es.getD j 0 ∧ es.getD j 0 ≤ 9223372036854775807) : Ev (fun k => rank_Bounds.f k lo hi most es (b : Int)) (boundsR lo hi es b) := by
  obtain ⟨a1, a2, a3, a4, a5, a6, a7, a8⟩ := sound0 hs
  have key : ∀ x8 : Int, x8 = lowB lo es b → lo ≤ x8 → Ev (fun k => rank_Bounds.j1 k (b : Int) x8 hi lo hi most es) (boundsR lo hi es b) := by
    intro x8 h8 hlo8
    refine Ev.succ ?_
    simp only [rank_Bounds.j1, rd_nat]
    have e := hes b
    by_cases h : b < es.length
    · refine Ev.pos (by omega) (Ev.pos (by omega) (Ev.succ ?_))
      simp only [rank_Bounds.j2, rd_nat, decide_eq_true_eq]
      refine Ev.if_ (fun h5 => ?_) (fun h5 => ?_)
      · have hh : highB hi es b = es.getD b 0 - 1 := by unfold highB; rw [if_pos ⟨h, of_decide_eq_true h5⟩]
        refine Ev.pos (by omega) (Ev.pos (by omega) (Ev.if_ (fun h6 => ?_) (fun h6 => ?_)))
        · refine Ev.some_ ?_
          unfold boundsR; rw [if_pos (by omega)]
        · have hw := w64 (x := es.getD b 0 - 1) (by omega)
          refine Ev.neg (by rw [hw]; omega) (Ev.some_ ?_)
          rw [hw]
          unfold boundsR; rw [if_neg (by omega), ← h8, hh]
      · have hh : highB hi es b = hi := by unfold highB; rw [if_neg (fun h6 => h5 (decide_eq_true h6.2))]
        refine Ev.if_ (fun h6 => Ev.some_ ?_) (fun h6 => Ev.some_ ?_)
        · unfold boundsR; rw [if_pos (by omega)]
        · unfold boundsR; rw [if_neg (by omega), ← h8, hh]
    · refine Ev.neg (by omega) (Ev.succ ?_)
      have hh : highB hi es b = hi := by unfold highB; rw [if_neg (fun h6 => h h6.1)]
      simp only [rank_Bounds.j2]
      refine Ev.neg (by decide) (Ev.if_ (fun h6 => Ev.some_ ?_) (fun h6 => Ev.some_ ?_))
      · unfold boundsR; rw [if_pos (by omega)]
      · unfold boundsR; rw [if_neg (by omega), ← h8, hh]
  unfold rank_Bounds.f
  refine Ev.bind (sound_f lo hi most es (by omega) h1 h2) (Ev.pos hs (Ev.neg (by omega) (Ev.succ ?_)))
  simp only [rank_Bounds.j0, decide_eq_true_eq]
  refine Ev.neg (by omega) ?_
  by_cases hp : 0 < b
  · refine Ev.pos (by omega) ?_
    have e1 : wrap64 ((b : Int) - 1) = ((b - 1 : Nat) : Int) := by rw [w64 (by omega)]; omega
    rw [e1, rd_nat]
    refine Ev.pos (by omega) (Ev.pos (by omega) (key _ ?_ ?_))
    · unfold lowB; rw [if_pos hp]
    · unfold mx; split <;> omega
  · refine Ev.neg (by omega) (key _ ?_ (by omega))
    unfold lowB; rw [if_neg hp]
theorem rbounds_no (lo hi most : Int) (es : List Int) (b : Int) (hl : es.length ≤ 9223372036854775806) (h1 : -9223372036854775808 ≤ lo ∧ lo ≤ 9223372036854775807) (h2 : -9223372036854775808 ≤ hi ∧ hi ≤ 9223372036854775807)
    (h : soundE lo hi most es = 0 → b < 0 ∨ b > (es.length : Int)) : Ev (fun k => rank_Bounds.f k lo hi most es b) (0, 0, if soundE lo hi most es = 0 then 1 else soundE lo hi most es) := by
  unfold rank_Bounds.f
  refine Ev.bind (sound_f lo hi most es hl h1 h2) (Ev.if_ (fun hs => ?_) (fun hs => Ev.some_ (by rw [if_neg hs])))
  rw [if_pos hs]
  have := h hs
  refine Ev.if_ (fun hn => Ev.succ ?_) (fun hn => Ev.succ ?_)
  · simp only [rank_Bounds.j0]
    exact Ev.pos (by first | rfl | trivial) (Ev.some_ rfl)
  · simp only [rank_Bounds.j0, decide_eq_true_eq]
    exact Ev.pos (by omega) (Ev.some_ rfl)
theorem awake_f : Ev (fun k => offertorylaw28_awake.f k) true := Ev.of (k := 80) (fun k => offertorylaw28_awake.mono k) (by decide +kernel)
end Go.Proofs.Ythokkogdkpmdcaa.Plain
