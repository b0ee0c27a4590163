/- Layer 25: which masks may be, by the program and by the law. -/
import Derived.Test.YtpicmnkkkgedeaaDoorPAllx15

import Derived.Test.YtpicmnkkkgedeaaDoorBase
namespace Go.Proofs.YtpicmnkkkgedeaaDoor.Plain
open Go.RowKit Go.Proofs.YtpicmnkkkgedeaaDoor.PAll Go.Proofs.YtpicmnkkkgedeaaDoor.Opn Go.Proofs.YtpicmnkkkgedeaaDoor.Base Go.Proofs.YtpicmnkkkgedeaaDoorW.PrintWords Go.Proofs.YtpicmnkkkgedeaaDoorW.PrintLast Go.Proofs.YtpicmnkkkgedeaaDoorW.PrintMore
set_option linter.unusedVariables false
set_option linter.unusedSimpArgs false
/-- A loop that asks something at each place, and then something else. -/
theorem all_loop (n : Nat) (P : Nat → Prop) (b0 : Bool) (L : Nat → Int → Option Bool)
    (hstep : ∀ (i : Nat) (b : Bool), i < n → Ev (fun k => L k ((i + 1 : Nat) : Int)) b → ∃ b', Ev (fun k => L k (i : Int)) b' ∧ (b' = true ↔ P i ∧ b = true)) (hend : Ev (fun k => L k (n : Int)) b0) :
    ∃ b, Ev (fun k => L k 0) b ∧ (b = true ↔ (∀ i, i < n → P i) ∧ b0 = true) := by
  have key : ∀ d i : Nat, i + d = n → ∃ b, Ev (fun k => L k (i : Int)) b ∧ (b = true ↔ (∀ j, i ≤ j → j < n → P j) ∧ b0 = true) := by
    intro d
    induction d with
    | zero =>
      intro i hi
      obtain rfl : i = n := by omega
      exact ⟨b0, hend, ⟨fun h => ⟨fun j h1 h2 => absurd h2 (by omega), h⟩, fun h => h.2⟩⟩
    | succ d ih =>
      intro i hi
      obtain ⟨b, h1, h2⟩ := ih (i + 1) (by omega)
      obtain ⟨b', h3, h4⟩ := hstep i b (by omega) h1
      refine ⟨b', h3, h4.trans ⟨fun h => ?_, fun h => ?_⟩⟩
      · obtain ⟨h5, h6⟩ := h
        obtain ⟨h7, h8⟩ := h2.1 h6
        refine ⟨fun j hj hj2 => ?_, h8⟩
        by_cases e : j = i
        · rw [e]; exact h5
        · exact h7 j (by omega) hj2
      · exact ⟨h.1 i (Nat.le_refl _) (by omega), h2.2 ⟨fun j h5 h6 => h.1 j (by omega) h6, h.2⟩⟩
  obtain ⟨b, h1, h2⟩ := key n 0 (by omega)
  exact ⟨b, h1, h2.trans ⟨fun h => ⟨fun i hi => h.1 i (Nat.zero_le _) hi, h.2⟩, fun h => ⟨fun i _ hi => h.1 i hi, h.2⟩⟩⟩
def RowS (d n : Int) (i : Nat) (r : List (List Int)) : Prop := (r.length : Int) = d ∧ ∀ j : Nat, j < r.length → ((r.getD j []).length : Int) = if j ≤ i then 0 else n
def SoundM (l0 : List (List Int)) (l1 : List (List (List Int))) (d n : Int) : Prop := (1 ≤ d ∧ d ≤ 64) ∧ (0 ≤ n ∧ n ≤ 256) ∧ (l0.length : Int) = d ∧ (l1.length : Int) = d ∧ (∀ i : Nat, i < l0.length → ((l0.getD i []).length : Int) = n) ∧ ∀ i : Nat, i < l1.length → RowS d n i (l1.getD i [])
theorem getD_eq {α : Type} {l : List α} {i : Nat} (h : i < l.length) (z : α) : l.getD i z = l[i] := by simp [List.getD, h]
theorem even_all (l : List (List Int)) (n : Int) : (l.all fun x => decide ((x.length : Int) = n)) = true ↔ ∀ i : Nat, i < l.length → ((l.getD i []).length : Int) = n := by
  rw [List.all_eq_true]
  constructor
  · intro h i hi
    rw [getD_eq hi]
    exact of_decide_eq_true (h _ (List.getElem_mem hi))
  · intro h x hx
    obtain ⟨i, hi, rfl⟩ := List.getElem_of_mem hx
    have := h i hi
    rw [getD_eq hi] at this
    exact decide_eq_true this
theorem even_take (r : List (List Int)) (m : Nat) (hm : m ≤ r.length) (n : Int) : ((r.take m).all fun x => decide ((x.length : Int) = n)) = true ↔ ∀ j : Nat, j < m → ((r.getD j []).length : Int) = n := by
  rw [even_all, List.length_take, Nat.min_eq_left hm]
  constructor
  · intro h j hj
    have := h j hj
    rwa [getD_eq (by rw [List.length_take]; omega), List.getElem_take, ← getD_eq (show j < r.length by omega) []] at this
  · intro h j hj
    rw [getD_eq (by rw [List.length_take]; omega), List.getElem_take, ← getD_eq (show j < r.length by omega) []]
    exact h j hj
theorem even_drop (r : List (List Int)) (m : Nat) (n : Int) : ((r.drop m).all fun x => decide ((x.length : Int) = n)) = true ↔ ∀ j : Nat, m ≤ j → j < r.length → ((r.getD j []).length : Int) = n := by
  rw [even_all, List.length_drop]
  constructor
  · intro h j hj hl
    have := h (j - m) (by omega)
    rw [getD_eq (by rw [List.length_drop]; omega), List.getElem_drop] at this
    rw [getD_eq hl]
    have e : m + (j - m) = j := by omega
    simp only [e] at this
    exact this
  · intro h j hj
    rw [getD_eq (by rw [List.length_drop]; omega), List.getElem_drop, ← getD_eq (show m + j < r.length by omega) []]
    exact h (m + j) (by omega) (by omega)
theorem rowS_iff (d n : Int) (i : Nat) (r : List (List Int)) (hi : (i : Int) < d) (hd : (r.length : Int) = d) : RowS d n i r ↔ ((r.take (i + 1)).all fun x => decide ((x.length : Int) = 0)) = true ∧ ((r.drop (i + 1)).all fun x => decide ((x.length : Int) = n)) = true := by
  rw [even_take r (i + 1) (by omega), even_drop]
  constructor
  · rintro ⟨_, h⟩
    refine ⟨fun j hj => ?_, fun j hj hl => ?_⟩
    · have := h j (by omega)
      rwa [if_pos (by omega)] at this
    · have := h j hl
      rwa [if_neg (by omega)] at this
  · rintro ⟨h1, h2⟩
    refine ⟨hd, fun j hj => ?_⟩
    by_cases e : j ≤ i
    · rw [if_pos e]; exact h1 j (by omega)
    · rw [if_neg e]; exact h2 j (by omega) hj
theorem iff_false {b : Bool} {P : Prop} (hb : b = false) (hp : ¬ P) : b = true ↔ P := ⟨fun h => absurd (hb.symm.trans h) (by decide), fun h => absurd h hp⟩
theorem soundP_f (l0 : List (List Int)) (l1 : List (List (List Int))) (d n : Int) (h1 : l1.length ≤ 9223372036854775806) : ∃ b, Ev (fun k => ideal_Sound.f k l0 l1 d n) b ∧ (b = true ↔ SoundM l0 l1 d n) := by
  have bad : ∀ hP : ¬ SoundM l0 l1 d n, ∃ b, Ev (fun k => ideal_Sound.j0 k d n true l0 l1) b ∧ (b = true ↔ SoundM l0 l1 d n) := fun hP =>
    ⟨false, Ev.succ (by simp only [ideal_Sound.j0]; exact Ev.pos trivial (Ev.now _)), iff_false rfl hP⟩
  have ite : ∀ {c : Prop} [Decidable c] {f g : Nat → Option Bool}, (c → ∃ b, Ev f b ∧ (b = true ↔ SoundM l0 l1 d n)) → (¬ c → ∃ b, Ev g b ∧ (b = true ↔ SoundM l0 l1 d n)) → ∃ b, Ev (fun k => if c then f k else g k) b ∧ (b = true ↔ SoundM l0 l1 d n) := fun {c} _ {f g} hf hg => by
    by_cases hc : c
    · obtain ⟨b, e1, e2⟩ := hf hc
      exact ⟨b, Ev.pos hc e1, e2⟩
    · obtain ⟨b, e1, e2⟩ := hg hc
      exact ⟨b, Ev.neg hc e1, e2⟩
  unfold ideal_Sound.f
  refine ite (fun c => bad fun h => by have := h.1; omega) fun c1 => ite (fun c => bad fun h => by have := h.1; omega) fun c2 => ite (fun c => bad fun h => by have := h.2.1; omega) fun c3 => ite (fun c => bad fun h => by have := h.2.1; omega) fun c4 => ite (fun c5 => ite (fun c6 => ?_) (fun c => bad fun h => c h.2.2.2.1)) (fun c => bad fun h => c h.2.2.1)
  cases he : (l0.all fun x => decide ((x.length : Int) = n))
  · have hne : ¬ SoundM l0 l1 d n := fun h => by
      have := (even_all l0 n).2 h.2.2.2.2.1
      rw [he] at this
      cases this
    obtain ⟨b, e1, e2⟩ := bad hne
    exact ⟨b, Ev.bind0 (a := false) (by unfold ideal_even.f; rw [he]) e1, e2⟩
  · have hall := (even_all l0 n).1 he
    obtain ⟨b, e1, e2⟩ := all_loop l1.length (fun i => RowS d n i (l1.getD i [])) true (fun k i => ideal_Sound.l0 k d n l1 (l1.length : Int) i) (fun i b hi hb => by
      by_cases hr : ((l1.getD i []).length : Int) = d
      · have hrow := rowS_iff d n i (l1.getD i []) (by omega) hr
        cases hz : ((l1.getD i []).take (i + 1)).all fun x => decide ((x.length : Int) = 0)
        · refine ⟨false, Ev.succ ?_, iff_false rfl (fun h => by have := (hrow.1 h.1).1; rw [hz] at this; cases this)⟩
          simp only [ideal_Sound.l0]
          rw [w64 (by omega)]
          refine Ev.pos (by omega) (Ev.pos (by omega) (Ev.pos (by omega) (Ev.pos hr (Ev.pos (by omega) (Ev.pos (by show ((i : Int) + 1) ≤ ((l1.getD i []).length : Int); omega) (Ev.bind0 (a := false) ?_ (Ev.neg (by decide) (Ev.now _))))))))
          unfold ideal_even.f
          exact congrArg some hz
        · cases hy : ((l1.getD i []).drop (i + 1)).all fun x => decide ((x.length : Int) = n)
          · refine ⟨false, Ev.succ ?_, iff_false rfl (fun h => by have := (hrow.1 h.1).2; rw [hy] at this; cases this)⟩
            simp only [ideal_Sound.l0]
            rw [w64 (by omega)]
            refine Ev.pos (by omega) (Ev.pos (by omega) (Ev.pos (by omega) (Ev.pos hr (Ev.pos (by omega) (Ev.pos (by show ((i : Int) + 1) ≤ ((l1.getD i []).length : Int); omega) (Ev.bind0 (a := true) ?_ (Ev.pos rfl (Ev.bind0 (a := false) ?_ (Ev.neg (by decide) (Ev.now _))))))))))
            · unfold ideal_even.f
              exact congrArg some hz
            · unfold ideal_even.f
              exact congrArg some hy
          · refine ⟨b, Ev.succ ?_, ⟨fun h => ⟨hrow.2 ⟨hz, hy⟩, h⟩, fun h => h.2⟩⟩
            simp only [ideal_Sound.l0]
            rw [w64 (by omega)]
            refine Ev.pos (by omega) (Ev.pos (by omega) (Ev.pos (by omega) (Ev.pos hr (Ev.pos (by omega) (Ev.pos (by show ((i : Int) + 1) ≤ ((l1.getD i []).length : Int); omega) (Ev.bind0 (a := true) ?_ (Ev.pos rfl (Ev.bind0 (a := true) ?_ (Ev.pos rfl hb)))))))))
            · unfold ideal_even.f
              exact congrArg some hz
            · unfold ideal_even.f
              exact congrArg some hy
      · refine ⟨false, Ev.succ ?_, iff_false rfl (fun h => hr h.1.1)⟩
        simp only [ideal_Sound.l0]
        exact Ev.pos (by omega) (Ev.pos (by omega) (Ev.pos (by omega) (Ev.neg hr (Ev.now _))))) (Ev.succ (by simp only [ideal_Sound.l0]; exact Ev.neg (by omega) (Ev.now _)))
    refine ⟨b, Ev.bind0 (a := true) (by unfold ideal_even.f; rw [he]) (Ev.succ ?_), e2.trans ⟨fun h => ⟨⟨by omega, by omega⟩, ⟨by omega, by omega⟩, c5, c6, hall, h.1⟩, fun h => ⟨h.2.2.2.2.2, rfl⟩⟩⟩
    simp only [ideal_Sound.j0]
    exact Ev.neg (by decide) e1
theorem soundL_f (l0 : List (List Int)) (l1 : List (List (List Int))) (d n : Int) : ∃ b, Ev (fun k => offertorylaw25_sound.f k l0 l1 d n) b ∧ (b = true ↔ SoundM l0 l1 d n) := by
  have bad : ∀ hP : ¬ SoundM l0 l1 d n, ∃ b, Ev (fun k => offertorylaw25_sound.j0 k d n true l0 l1) b ∧ (b = true ↔ SoundM l0 l1 d n) := fun hP =>
    ⟨false, Ev.succ (by simp only [offertorylaw25_sound.j0]; exact Ev.pos trivial (Ev.now _)), iff_false rfl hP⟩
  have ite : ∀ {c : Prop} [Decidable c] {f g : Nat → Option Bool}, (c → ∃ b, Ev f b ∧ (b = true ↔ SoundM l0 l1 d n)) → (¬ c → ∃ b, Ev g b ∧ (b = true ↔ SoundM l0 l1 d n)) → ∃ b, Ev (fun k => if c then f k else g k) b ∧ (b = true ↔ SoundM l0 l1 d n) := fun {c} _ {f g} hf hg => by
    by_cases hc : c
    · obtain ⟨b, e1, e2⟩ := hf hc
      exact ⟨b, Ev.pos hc e1, e2⟩
    · obtain ⟨b, e1, e2⟩ := hg hc
      exact ⟨b, Ev.neg hc e1, e2⟩
  unfold offertorylaw25_sound.f
  refine ite (fun c => bad fun h => by have := h.1; omega) fun c1 => ite (fun c => bad fun h => by have := h.1; omega) fun c2 => ite (fun c => bad fun h => by have := h.2.1; omega) fun c3 => ite (fun c => bad fun h => by have := h.2.1; omega) fun c4 => ite (fun c5 => ?_) (fun c => bad fun h => c h.2.2.1)
  by_cases c6 : (l1.length : Int) = d
  · have e6 : ((l1.length : Int) != d) = false := bne_eq_false_iff_eq.2 c6
    rw [e6]
    obtain ⟨b, e1, e2⟩ := all_loop l1.length (fun i => ((l0.getD i []).length : Int) = n ∧ RowS d n i (l1.getD i [])) true (fun k i => offertorylaw25_sound.l0 k d n i l0 l1) (fun i b hi hb => by
      by_cases h1 : ((l0.getD i []).length : Int) = n
      · by_cases hr : ((l1.getD i []).length : Int) = d
        · have er : (((l1.getD i []).length : Int) != d) = false := bne_eq_false_iff_eq.2 hr
          obtain ⟨b', e3, e4⟩ := all_loop (l1.getD i []).length (fun j => (((l1.getD i []).getD j []).length : Int) = if j ≤ i then 0 else n) b (fun k j => offertorylaw25_sound.l1 k d n (i : Int) j l0 l1) (fun j b2 hj hb2 => by
            by_cases hji : j ≤ i
            · by_cases hz : (((l1.getD i []).getD j []).length : Int) = 0
              · refine ⟨b2, Ev.succ ?_, ⟨fun h => ⟨by rw [if_pos hji]; exact hz, h⟩, fun h => h.2⟩⟩
                simp only [offertorylaw25_sound.l1]
                rw [w64 (by omega)]
                exact Ev.pos (by omega) (Ev.pos (by omega) (Ev.pos (by omega) (Ev.pos (by omega) (Ev.pos (by omega) (Ev.pos (by show (j : Int) < ((l1.getD i []).length : Int); omega) (Ev.pos hz (Ev.neg (by omega) hb2)))))))
              · refine ⟨false, Ev.succ ?_, iff_false rfl (fun h => by have := h.1; rw [if_pos hji] at this; exact hz this)⟩
                simp only [offertorylaw25_sound.l1]
                exact Ev.pos (by omega) (Ev.pos (by omega) (Ev.pos (by omega) (Ev.pos (by omega) (Ev.pos (by omega) (Ev.pos (by show (j : Int) < ((l1.getD i []).length : Int); omega) (Ev.neg hz (Ev.now _)))))))
            · by_cases hz : (((l1.getD i []).getD j []).length : Int) = n
              · refine ⟨b2, Ev.succ ?_, ⟨fun h => ⟨by rw [if_neg hji]; exact hz, h⟩, fun h => h.2⟩⟩
                simp only [offertorylaw25_sound.l1]
                rw [w64 (by omega)]
                exact Ev.pos (by omega) (Ev.neg (by omega) (Ev.pos (by omega) (Ev.pos (by omega) (Ev.pos (by omega) (Ev.pos (by omega) (Ev.pos (by show (j : Int) < ((l1.getD i []).length : Int); omega) (Ev.pos hz hb2)))))))
              · refine ⟨false, Ev.succ ?_, iff_false rfl (fun h => by have := h.1; rw [if_neg hji] at this; exact hz this)⟩
                simp only [offertorylaw25_sound.l1]
                exact Ev.pos (by omega) (Ev.neg (by omega) (Ev.pos (by omega) (Ev.pos (by omega) (Ev.pos (by omega) (Ev.pos (by omega) (Ev.pos (by show (j : Int) < ((l1.getD i []).length : Int); omega) (Ev.neg hz (Ev.now _))))))))) (Ev.succ (by
              simp only [offertorylaw25_sound.l1]
              rw [w64 (x := (i : Int) + 1) (by omega)]
              exact Ev.neg (by omega) hb))
          refine ⟨b', Ev.succ ?_, e4.trans ⟨fun h => ⟨⟨h1, hr, h.1⟩, h.2⟩, fun h => ⟨h.1.2.2, h.2⟩⟩⟩
          simp only [offertorylaw25_sound.l0]
          refine Ev.pos (by omega) (Ev.pos (by omega) (Ev.pos (by omega) (Ev.pos h1 (Ev.pos (by omega) ?_))))
          refine Ev.succ ?_
          simp only [offertorylaw25_sound.j2]
          exact Ev.neg (by show ¬ (((l1.getD i []).length : Int) != d) = true; rw [er]; decide) e3
        · refine ⟨false, Ev.succ ?_, iff_false rfl (fun h => hr h.1.2.1)⟩
          have er : (((l1.getD i []).length : Int) != d) = true := bne_iff_ne.2 hr
          simp only [offertorylaw25_sound.l0]
          refine Ev.pos (by omega) (Ev.pos (by omega) (Ev.pos (by omega) (Ev.pos h1 (Ev.pos (by omega) ?_))))
          refine Ev.succ ?_
          simp only [offertorylaw25_sound.j2]
          exact Ev.pos er (Ev.now _)
      · refine ⟨false, Ev.succ ?_, iff_false rfl (fun h => h1 h.1.1)⟩
        simp only [offertorylaw25_sound.l0]
        refine Ev.pos (by omega) (Ev.pos (by omega) (Ev.pos (by omega) (Ev.neg h1 ?_)))
        refine Ev.succ ?_
        simp only [offertorylaw25_sound.j2]
        exact Ev.pos trivial (Ev.now _)) (Ev.succ (by simp only [offertorylaw25_sound.l0]; exact Ev.neg (by omega) (Ev.now _)))
    refine ⟨b, Ev.succ ?_, e2.trans ⟨fun h => ⟨⟨by omega, by omega⟩, ⟨by omega, by omega⟩, c5, c6, fun i hi => (h.1 i (by omega)).1, fun i hi => (h.1 i hi).2⟩, fun h => ⟨fun i hi => ⟨h.2.2.2.2.1 i (by omega), h.2.2.2.2.2 i hi⟩, rfl⟩⟩⟩
    simp only [offertorylaw25_sound.j0]
    exact Ev.neg (by decide) e1
  · have e6 : ((l1.length : Int) != d) = true := bne_iff_ne.2 c6
    rw [e6]
    exact bad fun h => c6 h.2.2.2.1
end Go.Proofs.YtpicmnkkkgedeaaDoor.Plain
