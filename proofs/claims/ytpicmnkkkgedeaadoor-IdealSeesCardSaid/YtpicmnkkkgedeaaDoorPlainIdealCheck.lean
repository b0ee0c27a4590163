/- Layer 25: may inputs and masks be, and who shared and gave: the program's answer and the law's. -/
import Derived.Test.YtpicmnkkkgedeaaDoorPAllx15

import Derived.Test.YtpicmnkkkgedeaaDoorPlainIdealSound
import Derived.Test.YtpicmnkkkgedeaaDoorPlainCrowd25
namespace Go.Proofs.YtpicmnkkkgedeaaDoor.Plain
open Go.RowKit Go.Proofs.YtpicmnkkkgedeaaDoor.PAll Go.Proofs.YtpicmnkkkgedeaaDoor.Opn Go.Proofs.YtpicmnkkkgedeaaDoor.Base Go.Proofs.YtpicmnkkkgedeaaDoorW.PrintWords Go.Proofs.YtpicmnkkkgedeaaDoorW.PrintLast Go.Proofs.YtpicmnkkkgedeaaDoorW.PrintMore
set_option linter.unusedVariables false
set_option linter.unusedSimpArgs false
def ChkA (l0 l1 : List (List Int)) (l2 : List (List (List Int))) : Prop := 0 < l0.length ∧ (∀ i : Nat, i < l0.length → (l0.getD i []).length = (l0.getD 0 []).length) ∧ SoundM l1 l2 (l0.length : Int) ((l0.getD 0 []).length : Int)
def ChkW (n s g : Nat) : Prop := (∀ i : Nat, s.testBit i = true → i < n) ∧ ∀ i : Nat, g.testBit i = true → s.testBit i = true
def ChkR (l0 l1 : List (List Int)) (l2 : List (List (List Int))) (s g : Nat) (e : Int) : Prop := (ChkA l0 l1 l2 ∧ ChkW l0.length s g ∧ e = 0) ∨ (¬ ChkA l0 l1 l2 ∧ e = 1) ∨ (ChkA l0 l1 l2 ∧ ¬ ChkW l0.length s g ∧ e = 13)
theorem ChkR.unique {l0 l1 : List (List Int)} {l2 : List (List (List Int))} {s g : Nat} {e f : Int} (h : ChkR l0 l1 l2 s g e) (k : ChkR l0 l1 l2 s g f) : e = f := by
  rcases h with ⟨h1, h2, rfl⟩ | ⟨h1, rfl⟩ | ⟨h1, h2, rfl⟩ <;> rcases k with ⟨k1, k2, rfl⟩ | ⟨k1, rfl⟩ | ⟨k1, k2, rfl⟩ <;> first | rfl | exact absurd k1 h1 | exact absurd h1 k1 | exact absurd k2 h2 | exact absurd h2 k2
theorem inB_iff (a b : Nat) : inB a b = true ↔ ∀ i : Nat, a.testBit i = true → b.testBit i = true := ⟨fun h i hi => of_inB h i hi, inB_of⟩
theorem within_all {s n : Nat} (hn : n ≤ 64) : inB s (2 ^ n - 1) = true ↔ ∀ i : Nat, s.testBit i = true → i < n := by
  rw [inB_iff]
  constructor
  · intro h i hi
    have := h i hi
    rw [Nat.testBit_two_pow_sub_one] at this
    exact of_decide_eq_true this
  · intro h i hi
    rw [Nat.testBit_two_pow_sub_one]
    exact decide_eq_true (h i hi)
theorem checkP_f (l0 l1 : List (List Int)) (l2 : List (List (List Int))) (s g : Nat) (hs : s < 18446744073709551616) (hg : g < 18446744073709551616) (h2 : l2.length ≤ 9223372036854775806) : ∃ e, Ev (fun k => ideal_check.f k l0 l1 l2 (s : Int) (g : Int)) e ∧ ChkR l0 l1 l2 s g e := by
  unfold ideal_check.f
  by_cases h0 : l0.length = 0
  · exact ⟨1, Ev.pos h0 (Ev.now _), Or.inr (Or.inl ⟨fun h => by have := h.1; omega, rfl⟩)⟩
  · cases he : (l0.all fun x => decide ((x.length : Int) = ((rdV l0 0).length : Int)))
    · refine ⟨1, Ev.neg h0 (Ev.bind0 (a := false) (by unfold ideal_even.f; rw [he]) (Ev.pos rfl (Ev.now _))), Or.inr (Or.inl ⟨fun h => ?_, rfl⟩)⟩
      have := (even_all l0 ((rdV l0 0).length : Int)).2 (fun i hi => by have := h.2.1 i hi; show ((l0.getD i []).length : Int) = ((l0.getD 0 []).length : Int); omega)
      rw [he] at this
      cases this
    · have hall := (even_all l0 ((rdV l0 0).length : Int)).1 he
      have hev : ∀ i : Nat, i < l0.length → (l0.getD i []).length = (l0.getD 0 []).length := fun i hi => by
        have := hall i hi
        have e : (rdV l0 0) = l0.getD 0 [] := rfl
        rw [e] at this
        omega
      obtain ⟨b, hb1, hb2⟩ := soundP_f l1 l2 (l0.length : Int) ((rdV l0 0).length : Int) h2
      have hb3 : b = true ↔ ChkA l0 l1 l2 := hb2.trans ⟨fun h => ⟨by omega, hev, h⟩, fun h => h.2.2⟩
      cases b
      · exact ⟨1, Ev.neg h0 (Ev.bind0 (a := true) (by unfold ideal_even.f; rw [he]) (Ev.neg (by decide) (Ev.bind hb1 (Ev.pos rfl (Ev.now _))))), Or.inr (Or.inl ⟨fun h => absurd (hb3.2 h) (by decide), rfl⟩)⟩
      · have hA := hb3.1 rfl
        have hn : l0.length ≤ 64 := by have := hA.2.2.1; omega
        obtain ⟨c, hc1, hc2, hc3⟩ := all_f (l0.length : Int)
        rw [if_neg (by omega), if_neg (by omega)] at hc3
        obtain rfl : c = l0.length := by omega
        have hp : 2 ^ l0.length - 1 < 18446744073709551616 := by
          have := two_le_nat hn
          omega
        cases hw : inB s (2 ^ l0.length - 1)
        · refine ⟨13, Ev.neg h0 (Ev.bind0 (a := true) (by unfold ideal_even.f; rw [he]) (Ev.neg (by decide) (Ev.bind hb1 (Ev.neg (by decide) (Ev.bind0 hc2 (Ev.bind0 ((within_f s _ hs hp).trans (congrArg some hw)) (Ev.pos rfl (Ev.now _)))))))), Or.inr (Or.inr ⟨hA, fun h => ?_, rfl⟩)⟩
          have := (within_all hn).2 h.1
          rw [hw] at this
          cases this
        · have hw1 := (within_all hn).1 hw
          cases hv : inB g s
          · refine ⟨13, Ev.neg h0 (Ev.bind0 (a := true) (by unfold ideal_even.f; rw [he]) (Ev.neg (by decide) (Ev.bind hb1 (Ev.neg (by decide) (Ev.bind0 hc2 (Ev.bind0 ((within_f s _ hs hp).trans (congrArg some hw)) (Ev.neg (by decide) (Ev.bind0 ((within_f g s hg hs).trans (congrArg some hv)) (Ev.pos rfl (Ev.now _)))))))))), Or.inr (Or.inr ⟨hA, fun h => ?_, rfl⟩)⟩
            have := (inB_iff g s).2 h.2
            rw [hv] at this
            cases this
          · exact ⟨0, Ev.neg h0 (Ev.bind0 (a := true) (by unfold ideal_even.f; rw [he]) (Ev.neg (by decide) (Ev.bind hb1 (Ev.neg (by decide) (Ev.bind0 hc2 (Ev.bind0 ((within_f s _ hs hp).trans (congrArg some hw)) (Ev.neg (by decide) (Ev.bind0 ((within_f g s hg hs).trans (congrArg some hv)) (Ev.neg (by decide) (Ev.now _)))))))))), Or.inl ⟨hA, ⟨hw1, (inB_iff g s).1 hv⟩, rfl⟩⟩
theorem shr_zero {s n : Nat} (hs : s < 18446744073709551616) (hn : n ≤ 64) : shr .u64 (s : Int) (n : Int) = 0 ↔ ∀ i : Nat, s.testBit i = true → i < n := by
  rw [shr_eq (by omega) (by omega), Int.toNat_natCast, pow_nat]
  have hp : 0 < 2 ^ n := Nat.pow_pos (by decide)
  have e : ((s : Int) / ((2 ^ n : Nat) : Int) = 0) ↔ s < 2 ^ n := by
    rw [← Int.natCast_ediv]
    constructor
    · intro h
      have h2 : s / 2 ^ n = 0 := by omega
      rcases Nat.div_eq_zero_iff.1 h2 with h3 | h3
      · omega
      · exact h3
    · intro h
      have : s / 2 ^ n = 0 := Nat.div_eq_of_lt h
      omega
  rw [e]
  constructor
  · intro h i hi
    rcases Nat.lt_or_ge i n with h1 | h1
    · exact h1
    · have h3 := Nat.testBit_lt_two_pow (x := s) (i := i) (Nat.lt_of_lt_of_le h (two_le_nat h1))
      rw [hi] at h3
      cases h3
  · intro h
    refine Nat.lt_pow_two_of_testBit s (fun i hi => ?_)
    cases hb : s.testBit i
    · rfl
    · have := h i hb
      omega
theorem checkL_f (l0 l1 : List (List Int)) (l2 : List (List (List Int))) (s g : Nat) (hs : s < 18446744073709551616) (hg : g < 18446744073709551616) (h0' : l0.length ≤ 9223372036854775806) : ∃ e, Ev (fun k => offertorylaw25_check.f k l0 l1 l2 (s : Int) (g : Int)) e ∧ ChkR l0 l1 l2 s g e := by
  unfold offertorylaw25_check.f
  by_cases h0 : (l0.length : Int) = 0
  · exact ⟨1, Ev.pos h0 (Ev.now _), Or.inr (Or.inl ⟨fun h => by have := h.1; omega, rfl⟩)⟩
  · have hpos : 0 < l0.length := by omega
    have key : ∀ (e : Int), Ev (fun k => offertorylaw25_check.l0 k l0 (s : Int) (g : Int) (l0.length : Int) l1 l2) e → ∀ d i : Nat, i + d = l0.length → Ev (fun k => offertorylaw25_check.l0 k l0 (s : Int) (g : Int) (i : Int) l1 l2) e ∧ (∀ j : Nat, i ≤ j → j < l0.length → (l0.getD j []).length = (l0.getD 0 []).length) ∨ Ev (fun k => offertorylaw25_check.l0 k l0 (s : Int) (g : Int) (i : Int) l1 l2) 1 ∧ ¬ (∀ j : Nat, j < l0.length → (l0.getD j []).length = (l0.getD 0 []).length) := by
      intro e he d
      induction d with
      | zero =>
        intro i hi
        obtain rfl : i = l0.length := by omega
        exact Or.inl ⟨he, fun j h1 h2 => absurd h2 (by omega)⟩
      | succ d ih =>
        intro i hi
        by_cases hc : (l0.getD i []).length = (l0.getD 0 []).length
        · rcases ih (i + 1) (by omega) with ⟨h1, h2⟩ | ⟨h1, h2⟩
          · refine Or.inl ⟨Ev.succ ?_, fun j h3 h4 => ?_⟩
            · simp only [offertorylaw25_check.l0]
              rw [w64 (x := (i : Int) + 1) (by omega)]
              exact Ev.pos (by omega) (Ev.pos (by omega) (Ev.pos (by omega) (Ev.pos (by show ((l0.getD i []).length : Int) = ((l0.getD 0 []).length : Int); omega) h1)))
            · by_cases e2 : j = i
              · rw [e2]; exact hc
              · exact h2 j (by omega) h4
          · refine Or.inr ⟨Ev.succ ?_, h2⟩
            simp only [offertorylaw25_check.l0]
            rw [w64 (x := (i : Int) + 1) (by omega)]
            exact Ev.pos (by omega) (Ev.pos (by omega) (Ev.pos (by omega) (Ev.pos (by show ((l0.getD i []).length : Int) = ((l0.getD 0 []).length : Int); omega) h1)))
        · refine Or.inr ⟨Ev.succ ?_, fun h => hc (h i (by omega))⟩
          simp only [offertorylaw25_check.l0]
          exact Ev.pos (by omega) (Ev.pos (by omega) (Ev.pos (by omega) (Ev.neg (by show ¬ ((l0.getD i []).length : Int) = ((l0.getD 0 []).length : Int); omega) (Ev.now _))))
    obtain ⟨b, hb1, hb2⟩ := soundL_f l1 l2 (l0.length : Int) ((l0.getD 0 []).length : Int)
    have tail : ∃ e, Ev (fun k => offertorylaw25_check.l0 k l0 (s : Int) (g : Int) (l0.length : Int) l1 l2) e ∧ ((SoundM l1 l2 (l0.length : Int) ((l0.getD 0 []).length : Int) ∧ ChkW l0.length s g ∧ e = 0) ∨ (¬ SoundM l1 l2 (l0.length : Int) ((l0.getD 0 []).length : Int) ∧ e = 1) ∨ (SoundM l1 l2 (l0.length : Int) ((l0.getD 0 []).length : Int) ∧ ¬ ChkW l0.length s g ∧ e = 13)) := by
      cases b
      · refine ⟨1, Ev.succ ?_, Or.inr (Or.inl ⟨fun h => absurd (hb2.2 h) (by decide), rfl⟩)⟩
        simp only [offertorylaw25_check.l0]
        exact Ev.neg (by omega) (Ev.pos (by omega) (Ev.bind hb1 (Ev.neg (by decide) (Ev.now _))))
      · have hS := hb2.1 rfl
        have hn : l0.length ≤ 64 := by have := hS.1; omega
        have hw : IntKind.u64.wrap (l0.length : Int) = (l0.length : Int) := wu64 (by omega)
        have hand : Go.bits .andNot .u64 (g : Int) (s : Int) = 0 ↔ ∀ i : Nat, g.testBit i = true → s.testBit i = true := by
          rw [bits_andNot_nat g s hg hs, ← inB_iff]
          unfold inB
          rw [decide_eq_true_eq]
          omega
        have fin_ : ∀ (hlow : ∀ i : Nat, s.testBit i = true → i < l0.length), ∃ e, Ev (fun _ : Nat => if Go.bits .andNot .u64 (g : Int) (s : Int) = 0 then some (0 : Int) else some 13) e ∧ ((SoundM l1 l2 (l0.length : Int) ((l0.getD 0 []).length : Int) ∧ ChkW l0.length s g ∧ e = 0) ∨ (¬ SoundM l1 l2 (l0.length : Int) ((l0.getD 0 []).length : Int) ∧ e = 1) ∨ (SoundM l1 l2 (l0.length : Int) ((l0.getD 0 []).length : Int) ∧ ¬ ChkW l0.length s g ∧ e = 13)) := fun hlow => by
          by_cases hz : Go.bits .andNot .u64 (g : Int) (s : Int) = 0
          · exact ⟨0, Ev.pos hz (Ev.now _), Or.inl ⟨hS, ⟨hlow, hand.1 hz⟩, rfl⟩⟩
          · exact ⟨13, Ev.neg hz (Ev.now _), Or.inr (Or.inr ⟨hS, fun h => hz (hand.2 h.2), rfl⟩)⟩
        by_cases h64 : (l0.length : Int) < 64
        · by_cases hz : shr .u64 (s : Int) (l0.length : Int) = 0
          · obtain ⟨e, h1, h2⟩ := fin_ ((shr_zero hs hn).1 hz)
            refine ⟨e, Ev.succ ?_, h2⟩
            simp only [offertorylaw25_check.l0, hw]
            exact Ev.neg (by omega) (Ev.pos (by omega) (Ev.bind hb1 (Ev.pos rfl (Ev.pos h64 (Ev.pos (by omega) (Ev.pos hz h1))))))
          · refine ⟨13, Ev.succ ?_, Or.inr (Or.inr ⟨hS, fun h => hz ((shr_zero hs hn).2 h.1), rfl⟩)⟩
            simp only [offertorylaw25_check.l0, hw]
            exact Ev.neg (by omega) (Ev.pos (by omega) (Ev.bind hb1 (Ev.pos rfl (Ev.pos h64 (Ev.pos (by omega) (Ev.neg hz (Ev.now _)))))))
        · obtain ⟨e, h1, h2⟩ := fin_ (fun i hi => by
            rcases Nat.lt_or_ge i 64 with h3 | h3
            · omega
            · have := high_bit hs h3
              rw [hi] at this
              cases this)
          refine ⟨e, Ev.succ ?_, h2⟩
          simp only [offertorylaw25_check.l0, hw]
          exact Ev.neg (by omega) (Ev.pos (by omega) (Ev.bind hb1 (Ev.pos rfl (Ev.neg h64 h1))))
    obtain ⟨e, h1, h2⟩ := tail
    rcases key e h1 l0.length 0 (by omega) with ⟨h3, h4⟩ | ⟨h3, h4⟩
    · refine ⟨e, Ev.neg h0 h3, ?_⟩
      have hA : ChkA l0 l1 l2 ↔ SoundM l1 l2 (l0.length : Int) ((l0.getD 0 []).length : Int) := ⟨fun h => h.2.2, fun h => ⟨hpos, fun i hi => h4 i (Nat.zero_le _) hi, h⟩⟩
      rcases h2 with ⟨a, b, c⟩ | ⟨a, c⟩ | ⟨a, b, c⟩
      · exact Or.inl ⟨hA.2 a, b, c⟩
      · exact Or.inr (Or.inl ⟨fun h => a (hA.1 h), c⟩)
      · exact Or.inr (Or.inr ⟨hA.2 a, b, c⟩)
    · exact ⟨1, Ev.neg h0 h3, Or.inr (Or.inl ⟨fun h => h4 h.2.1, rfl⟩)⟩
end Go.Proofs.YtpicmnkkkgedeaaDoor.Plain
