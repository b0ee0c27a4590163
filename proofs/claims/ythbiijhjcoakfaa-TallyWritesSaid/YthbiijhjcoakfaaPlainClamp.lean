/- What the plans' checks, clamps and bits come to, in plain numbers. -/
import Derived.Test.YthbiijhjcoakfaaPAllx
import Derived.Test.YthbiijhjcoakfaaBase
namespace Go.Proofs.Ythbiijhjcoakfaa.Plain
open Go.RowKit Go.Proofs.Ythbiijhjcoakfaa.PAll Go.Proofs.Ythbiijhjcoakfaa.Opn Go.Proofs.Ythbiijhjcoakfaa.Base Go.Proofs.YthbiijhjcoakfaaW.PrintWords Go.Proofs.YthbiijhjcoakfaaW.PrintLast Go.Proofs.YthbiijhjcoakfaaW.PrintMore
set_option linter.unusedVariables false
set_option linter.unusedSimpArgs false

/-- A list rises. -/
def risesB : List Int → Bool
  | a :: b :: l => decide (a < b) && risesB (b :: l)
  | _ => true
theorem risesB_iff : ∀ l : List Int, risesB l = true ↔ ∀ j, 1 ≤ j → j < l.length → l.getD (j - 1) 0 < l.getD j 0
  | [] => by simp [risesB]
  | [a] => by simp [risesB]; intro j h1 h2; omega
  | a :: b :: l => by
    simp only [risesB, Bool.and_eq_true, decide_eq_true_eq]
    rw [risesB_iff (b :: l)]
    constructor
    · rintro ⟨h0, h⟩ j h1 h2
      match j, h1 with
      | 1, _ => simpa using h0
      | j + 2, _ =>
        have := h (j + 1) (by omega) (by simpa using h2)
        simpa using this
    · intro h
      refine ⟨by simpa using h 1 (by omega) (by simp), fun j h1 h2 => ?_⟩
      match j, h1 with
      | j + 1, _ =>
        have := h (j + 2) (by omega) (by simpa using h2)
        simpa using this

def boundsB (lo hi : Int) : Bool := decide (-1099511627776 ≤ lo ∧ hi ≤ 1099511627776 ∧ lo ≤ hi ∧ hi - lo < 1099511627776)
/-- What a plan's check answers. -/
def soundE (lo hi most : Int) (es : List Int) : Int :=
  if boundsB lo hi = true then (if most < 1 ∨ most > 65536 then 9 else if risesB es = true ∧ es.length ≤ 64 then 0 else 10) else 4

theorem sound0 {lo hi most : Int} {es : List Int} (h : soundE lo hi most es = 0) : -1099511627776 ≤ lo ∧ hi ≤ 1099511627776 ∧ lo ≤ hi ∧ hi - lo < 1099511627776 ∧ 1 ≤ most ∧ most ≤ 65536 ∧ risesB es = true ∧ es.length ≤ 64 := by
  unfold soundE at h
  split at h
  · rename_i hb
    split at h
    · simp at h
    · split at h
      · rename_i h1 h2
        have := of_decide_eq_true hb
        obtain ⟨h3, h4⟩ := h2
        exact ⟨by omega, by omega, by omega, by omega, by omega, by omega, h3, h4⟩
      · simp at h
  · simp at h

theorem bounds_f (lo hi most : Int) (es : List Int) (h1 : -9223372036854775808 ≤ lo ∧ lo ≤ 9223372036854775807) (h2 : -9223372036854775808 ≤ hi ∧ hi ≤ 9223372036854775807) : clamp_plan_bounds.f lo hi most es = some (boundsB lo hi) := by
  unfold clamp_plan_bounds.f boundsB
  by_cases a : lo ≥ -1099511627776
  · by_cases b : hi ≤ 1099511627776
    · by_cases c : lo ≤ hi
      · rw [if_pos a, if_pos b, if_pos c, w64 (by omega)]
        simp [a, b, c]
      · rw [if_pos a, if_pos b, if_neg c]
        simp [c]
    · rw [if_pos a, if_neg b]
      simp [b]
  · rw [if_neg a]
    have : ¬ (-1099511627776 ≤ lo) := a
    simp [this]

theorem rises_step {es : List Int} {i : Nat} (h1 : 1 ≤ i) (h : i < es.length) : risesB (es.drop (i - 1)) = (decide (es.getD (i - 1) 0 < es.getD i 0) && risesB (es.drop i)) := by
  have h0 : i - 1 < es.length := by omega
  rw [List.drop_eq_getElem_cons h0, show i - 1 + 1 = i by omega, List.drop_eq_getElem_cons h]
  simp [risesB, List.getD, List.getElem?_eq_getElem h0, List.getElem?_eq_getElem h]
theorem rises_end {es : List Int} {i : Nat} (h : ¬ i < es.length) : risesB (es.drop (i - 1)) = true := by
  have h0 : (es.drop (i - 1)).length ≤ 1 := by rw [List.length_drop]; omega
  match es.drop (i - 1), h0 with
  | [], _ => rfl
  | [a], _ => rfl
theorem rising_l0 (lo hi most : Int) (es : List Int) (hl : es.length ≤ 9223372036854775806) : ∀ d i : Nat, es.length - i = d → 1 ≤ i →
    Ev (fun k => clamp_plan_rising.l0 k (i : Int) lo hi most es) (risesB (es.drop (i - 1)) && decide (es.length ≤ 64))
  | d, i, hd, h1 => by
    refine Ev.succ ?_
    simp only [clamp_plan_rising.l0]
    by_cases h : i < es.length
    · have e1 : wrap64 ((i : Int) - 1) = ((i - 1 : Nat) : Int) := by rw [w64 (by omega)]; omega
      have e2 : wrap64 ((i : Int) + 1) = ((i + 1 : Nat) : Int) := by rw [w64 (by omega)]; omega
      rw [e1, e2]
      simp only [rd_nat]
      refine Ev.pos (by omega) (Ev.pos (by omega) (Ev.pos (by omega) (Ev.pos (by omega) ?_)))
      rw [rises_step h1 h]
      by_cases hc : es.getD i 0 ≤ es.getD (i - 1) 0
      · refine Ev.pos hc (Ev.some_ ?_)
        rw [decide_eq_false (by omega)]; rfl
      · refine Ev.neg hc ?_
        rw [decide_eq_true (by omega), Bool.true_and]
        exact rising_l0 lo hi most es hl (d - 1) (i + 1) (by omega) (by omega)
    · refine Ev.neg (by omega) (Ev.some_ ?_)
      rw [rises_end h, Bool.true_and]
      exact decide_eq_decide.2 (by omega)
  termination_by d _ => d
  decreasing_by all_goals omega

theorem rising_f (lo hi most : Int) (es : List Int) (hl : es.length ≤ 9223372036854775806) : Ev (fun k => clamp_plan_rising.f k lo hi most es) (risesB es && decide (es.length ≤ 64)) :=
  rising_l0 lo hi most es hl _ 1 rfl (Nat.le_refl _)

theorem sound_f (lo hi most : Int) (es : List Int) (hl : es.length ≤ 9223372036854775806) (h1 : -9223372036854775808 ≤ lo ∧ lo ≤ 9223372036854775807) (h2 : -9223372036854775808 ≤ hi ∧ hi ≤ 9223372036854775807) :
    Ev (fun k => clamp_Sound.f k lo hi most es) (soundE lo hi most es) := by
  unfold clamp_Sound.f soundE
  refine Ev.bind0 (bounds_f lo hi most es h1 h2) ?_
  by_cases hb : boundsB lo hi = true
  · simp only [hb, if_true]
    by_cases hm : most < 1
    · simp only [hm, if_true, true_or]
      refine Ev.succ ?_
      simp only [clamp_Sound.j0, if_true]
      exact Ev.now _
    · simp only [hm, if_false, false_or]
      refine Ev.succ ?_
      simp only [clamp_Sound.j0, decide_eq_true_eq]
      refine Ev.if_ (fun h => ?_) (fun h => ?_)
      · rw [if_pos h]; exact Ev.now _
      · rw [if_neg h]
        refine Ev.bind (rising_f lo hi most es hl) ?_
        simp only [Bool.and_eq_true, decide_eq_true_eq]
        by_cases hr : risesB es = true ∧ es.length ≤ 64
        · simp only [hr, and_self, if_true]; exact Ev.now _
        · simp only [hr, if_false]; exact Ev.now _
  · simp only [hb, Bool.false_eq_true, if_false]
    exact Ev.now _

theorem refSound_l0 (lo hi most : Int) (es : List Int) (hl : es.length ≤ 64) : ∀ d i : Nat, es.length - i = d → 1 ≤ i →
    Ev (fun k => offertoryref09_Sound.l0 k (i : Int) lo hi most es) (if risesB (es.drop (i - 1)) = true then 0 else 10)
  | d, i, hd, h1 => by
    refine Ev.succ ?_
    simp only [offertoryref09_Sound.l0]
    by_cases h : i < es.length
    · have e1 : wrap64 ((i : Int) - 1) = ((i - 1 : Nat) : Int) := by rw [w64 (by omega)]; omega
      have e2 : wrap64 ((i : Int) + 1) = ((i + 1 : Nat) : Int) := by rw [w64 (by omega)]; omega
      rw [e1, e2]
      simp only [rd_nat]
      refine Ev.pos (by omega) (Ev.pos (by omega) (Ev.pos (by omega) (Ev.pos (by omega) ?_)))
      rw [rises_step h1 h]
      by_cases hc : es.getD (i - 1) 0 ≥ es.getD i 0
      · refine Ev.pos hc (Ev.some_ ?_)
        rw [decide_eq_false (by omega)]; rfl
      · refine Ev.neg hc ?_
        rw [decide_eq_true (by omega), Bool.true_and]
        exact refSound_l0 lo hi most es hl (d - 1) (i + 1) (by omega) (by omega)
    · refine Ev.neg (by omega) (Ev.some_ ?_)
      rw [rises_end h]; rfl
  termination_by d _ => d
  decreasing_by all_goals omega

theorem refSound_f (lo hi most : Int) (es : List Int) (h1 : -9223372036854775808 ≤ lo ∧ lo ≤ 9223372036854775807) (h2 : -9223372036854775808 ≤ hi ∧ hi ≤ 9223372036854775807) :
    Ev (fun k => offertoryref09_Sound.f k lo hi most es) (soundE lo hi most es) := by
  have hj1 : ∀ b, boundsB lo hi = true → ¬ most < 1 → b = decide (most > 65536) → Ev (fun k => offertoryref09_Sound.j1 k b lo hi most es) (soundE lo hi most es) := by
    intro b hb hm hb'
    subst hb'
    unfold soundE
    refine Ev.succ ?_
    simp only [offertoryref09_Sound.j1, decide_eq_true_eq, hb, if_true, hm, false_or]
    refine Ev.if_ (fun h => ?_) (fun h => ?_)
    · rw [if_pos h]; exact Ev.now _
    · rw [if_neg h]
      refine Ev.if_ (fun h3 => ?_) (fun h3 => ?_)
      · rw [if_neg (by omega)]; exact Ev.now _
      · have h4 := refSound_l0 lo hi most es (by omega) _ 1 rfl (Nat.le_refl _)
        have h5 : es.length ≤ 64 := by omega
        simp only [h5, and_true]
        simpa using h4
  have hj0 : ∀ b, boundsB lo hi = !b → Ev (fun k => offertoryref09_Sound.j0 k b lo hi most es) (soundE lo hi most es) := by
    intro b hb
    refine Ev.succ ?_
    simp only [offertoryref09_Sound.j0]
    cases b with
    | true =>
      simp only [if_true]
      refine Ev.some_ ?_
      unfold soundE
      rw [hb]; rfl
    | false =>
      simp only [Bool.false_eq_true, if_false]
      refine Ev.if_ (fun h => ?_) (fun h => ?_)
      · refine Ev.succ ?_
        simp only [offertoryref09_Sound.j1, if_true]
        refine Ev.some_ ?_
        unfold soundE
        rw [hb]
        simp [h]
      · exact hj1 _ (by rw [hb]; rfl) h rfl
  unfold offertoryref09_Sound.f
  refine Ev.if_ (fun h => hj0 _ ?_) (fun a => Ev.if_ (fun h => hj0 _ ?_) (fun b => Ev.if_ (fun h => hj0 _ ?_) (fun c => hj0 _ ?_)))
  · have : ¬ (-1099511627776 ≤ lo) := by omega
    simp [boundsB, this]
  · have : ¬ (hi ≤ 1099511627776) := by omega
    simp [boundsB, this]
  · have : ¬ (lo ≤ hi) := by omega
    simp [boundsB, this]
  · rw [w64 (by omega)]
    unfold boundsB
    rw [Bool.eq_iff_iff]
    simp only [decide_eq_true_eq, Bool.not_eq_true', decide_eq_false_iff_not]
    omega

/-- What a clamped sample is. -/
def clampV (lo hi x : Int) : Int := mn (mx x lo) hi
theorem clampV_eq {lo hi : Int} (h : lo ≤ hi) (x : Int) : clampV lo hi x = if x < lo then lo else if x > hi then hi else x := by
  unfold clampV mn mx
  split <;> split <;> (try split) <;> (try split) <;> (try split) <;> omega
theorem clampV_in {lo hi : Int} (h : lo ≤ hi) (x : Int) : lo ≤ clampV lo hi x ∧ clampV lo hi x ≤ hi := by
  rw [clampV_eq h]; split <;> (try split) <;> omega
theorem clampV_id {lo hi x : Int} (h1 : lo ≤ x) (h2 : x ≤ hi) : clampV lo hi x = x := by
  rw [clampV_eq (by omega)]; split <;> (try split) <;> omega

theorem clamp_f (lo hi most : Int) (es : List Int) (x : Int) (hl : es.length ≤ 9223372036854775806) (h1 : -9223372036854775808 ≤ lo ∧ lo ≤ 9223372036854775807) (h2 : -9223372036854775808 ≤ hi ∧ hi ≤ 9223372036854775807) :
    Ev (fun k => clamp_Clamp.f k lo hi most es x) (if soundE lo hi most es = 0 then (clampV lo hi x, 0) else (0, soundE lo hi most es)) := by
  unfold clamp_Clamp.f
  refine Ev.bind (sound_f lo hi most es hl h1 h2) ?_
  refine Ev.if_ (fun h => ?_) (fun h => ?_)
  · rw [if_pos h]; exact Ev.now _
  · rw [if_neg h]; exact Ev.now _

/-- The bits of a number. -/
def IsLen (x : Int) (n : Int) : Prop := 0 ≤ n ∧ x < 2 ^ n.toNat ∧ (n = 0 ∨ 2 ^ (n - 1).toNat ≤ x)
theorem IsLen.unique {x a b : Int} (ha : IsLen x a) (hb : IsLen x b) : a = b := by
  obtain ⟨a0, a1, a2⟩ := ha
  obtain ⟨b0, b1, b2⟩ := hb
  have key : ∀ a b : Int, 0 ≤ a → 0 ≤ b → x < 2 ^ a.toNat → (b = 0 ∨ 2 ^ (b - 1).toNat ≤ x) → b ≤ a := by
    intro a b ha hb h1 h2
    rcases h2 with h2 | h2
    · omega
    · rcases Int.lt_or_le a b with h | h
      · exfalso
        have h3 : (2 : Int) ^ a.toNat ≤ 2 ^ (b - 1).toNat := by
          have : (2 : Nat) ^ a.toNat ≤ 2 ^ (b - 1).toNat := Nat.pow_le_pow_right (by decide) (by omega)
          exact_mod_cast this
        omega
      · exact h
  have := key a b a0 b0 a1 b2
  have := key b a b0 a0 b1 a2
  omega

end Go.Proofs.Ythbiijhjcoakfaa.Plain
