/- The Go functions that the laws reach, as Lean functions, and that each call comes to what its function says. Written by a program of this session (a turned copy of the kit's print). No condition beyond those that each theorem states. -/
import Derived.Test.YtjmfhlapjghipaaPAllx0
import Derived.Test.YtjmfhlapjghipaaPAllx1
import Derived.Test.YtjmfhlapjghipaaPAllx3
import Derived.Test.YtjmfhlapjghipaaPAllx4
namespace Go.Proofs.Ytjmfhlapjghipaa.PAll
open Go.RowKit Go.Proofs.YtjmfhlapjghipaaW.PrintWords Go.Proofs.YtjmfhlapjghipaaW.PrintLast Go.Proofs.YtjmfhlapjghipaaW.PrintMore
attribute [local go_sem] max2_int min2_int max_two min_two max_three min_three max_four min_four   -- for this text's walks alone
set_option linter.unusedVariables false
set_option linter.unusedSimpArgs false

/-! ### the law's own list of marks -/
def HasK (ms : List S30) (m : Int → Option Int) : Prop := (ms.map (fun s => s.f0)).Nodup ∧ ∀ w a : Int, m w = some a ↔ ∃ s ∈ ms, s.f0 = w ∧ s.f1 = a
theorem HasK.inj {ms : List S30} {m : Int → Option Int} (h : HasK ms m) {i j : Nat} (hi : i < ms.length) (hj : j < ms.length) (e : ms[i].f0 = ms[j].f0) : i = j := by
  have h1 := h.1
  unfold List.Nodup at h1
  rw [List.pairwise_iff_getElem] at h1
  rcases Nat.lt_trichotomy i j with c | c | c
  · exact absurd (by rw [List.getElem_map, List.getElem_map]; exact e) (h1 i j (by simpa using hi) (by simpa using hj) c)
  · exact c
  · exact absurd (by rw [List.getElem_map, List.getElem_map]; exact e.symm) (h1 j i (by simpa using hj) (by simpa using hi) c)
theorem hasK_nil : HasK [] (fun _ => none) := ⟨by simp, fun w a => ⟨fun h => (by cases h), fun ⟨p, hp, _⟩ => (by cases hp)⟩⟩
theorem HasK.at {ms : List S30} {m : Int → Option Int} (h : HasK ms m) {i : Nat} (hi : i < ms.length) : m ms[i].f0 = some ms[i].f1 := (h.2 _ _).2 ⟨_, List.getElem_mem hi, rfl, rfl⟩
theorem HasK.noone {ms : List S30} {m : Int → Option Int} (h : HasK ms m) {who : Int} (hn : ∀ i : Nat, (hi : i < ms.length) → ms[i].f0 ≠ who) : m who = none := by
  cases e : m who with
  | none => rfl
  | some a =>
    obtain ⟨s, hs, e1, _⟩ := (h.2 _ _).1 e
    obtain ⟨i, hi, rfl⟩ := List.getElem_of_mem hs
    exact absurd e1 (hn i hi)
theorem HasK.set {ms : List S30} {m : Int → Option Int} (h : HasK ms m) {k : Nat} (hk : k < ms.length) (at_ : Int) : HasK (ms.set k ⟨ms[k].f0, at_⟩) (updM m ms[k].f0 (some at_)) := by
  refine ⟨?_, fun w a => ?_⟩
  · have e : (ms.set k ⟨ms[k].f0, at_⟩).map (fun s => s.f0) = ms.map (fun s => s.f0) := by
      refine List.ext_getElem (by simp) (fun i h1 h2 => ?_)
      rw [List.getElem_map, List.getElem_map, List.getElem_set]
      by_cases e : k = i
      · subst e; rw [if_pos rfl]
      · rw [if_neg e]
    rw [e]
    exact h.1
  · unfold updM
    by_cases e : w = ms[k].f0
    · subst e
      rw [if_pos rfl]
      constructor
      · rintro ⟨⟩
        exact ⟨⟨ms[k].f0, at_⟩, List.mem_iff_getElem.2 ⟨k, by simpa using hk, by simp⟩, rfl, rfl⟩
      · rintro ⟨s, hs, e1, e2⟩
        obtain ⟨i, hi, rfl⟩ := List.getElem_of_mem hs
        rw [List.getElem_set] at e1 e2
        have hi' : i < ms.length := by simpa using hi
        split at e1
        · rename_i hik
          rw [if_pos hik] at e2
          rw [← e2]
        · rename_i hik
          exact absurd (h.inj hk hi' e1.symm) hik
    · rw [if_neg e, h.2 w a]
      constructor
      · rintro ⟨s, hs, e1, e2⟩
        obtain ⟨i, hi, rfl⟩ := List.getElem_of_mem hs
        refine ⟨ms[i], List.mem_iff_getElem.2 ⟨i, by simpa using hi, ?_⟩, e1, e2⟩
        rw [List.getElem_set, if_neg (fun e3 => e (by subst e3; exact e1.symm))]
      · rintro ⟨s, hs, e1, e2⟩
        obtain ⟨i, hi, rfl⟩ := List.getElem_of_mem hs
        have hi' : i < ms.length := by simpa using hi
        rw [List.getElem_set] at e1 e2
        split at e1
        · exact absurd e1.symm e
        · rename_i hik
          rw [if_neg hik] at e2
          exact ⟨ms[i], List.getElem_mem hi', e1, e2⟩
theorem HasK.add {ms : List S30} {m : Int → Option Int} (h : HasK ms m) (who at_ : Int) (hn : m who = none) : HasK (ms ++ [⟨who, at_⟩]) (updM m who (some at_)) := by
  have hne : ∀ s ∈ ms, s.f0 ≠ who := fun s hs e => by
    have := (h.2 who s.f1).2 ⟨s, hs, e, rfl⟩
    rw [hn] at this
    cases this
  refine ⟨?_, fun w a => ?_⟩
  · rw [List.map_append, List.nodup_append]
    refine ⟨h.1, by simp, fun x hx y hy e => ?_⟩
    obtain ⟨s, hs, rfl⟩ := List.mem_map.1 hx
    simp only [List.map_cons, List.map_nil, List.mem_singleton] at hy
    exact hne s hs (by rw [e, hy])
  · unfold updM
    by_cases e : w = who
    · subst e
      rw [if_pos rfl]
      constructor
      · rintro ⟨⟩
        exact ⟨⟨w, at_⟩, by simp, rfl, rfl⟩
      · rintro ⟨s, hs, e1, e2⟩
        rcases List.mem_append.1 hs with hs | hs
        · exact absurd e1 (hne s hs)
        · obtain rfl := List.mem_singleton.1 hs
          rw [← e2]
    · rw [if_neg e, h.2 w a]
      constructor
      · rintro ⟨s, hs, e1⟩; exact ⟨s, List.mem_append.2 (Or.inl hs), e1⟩
      · rintro ⟨s, hs, e1⟩
        rcases List.mem_append.1 hs with hs | hs
        · exact ⟨s, hs, e1⟩
        · obtain rfl := List.mem_singleton.1 hs
          exact absurd e1.1.symm e
theorem HasK.del {ms : List S30} {m : Int → Option Int} (h : HasK ms m) {k : Nat} (hk : k < ms.length) : HasK (ms.take k ++ ms.drop (k + 1)) (updM m ms[k].f0 none) := by
  have e0 : ms = ms.take k ++ ms[k] :: ms.drop (k + 1) := by
    conv => lhs; rw [← List.take_append_drop k ms, List.drop_eq_getElem_cons hk]
  have hsub : ∀ s : S30, s ∈ ms ↔ s = ms[k] ∨ s ∈ ms.take k ++ ms.drop (k + 1) := fun s => by
    conv => lhs; rw [e0]
    simp only [List.mem_append, List.mem_cons]
    constructor
    · rintro (h | h | h)
      · exact Or.inr (Or.inl h)
      · exact Or.inl h
      · exact Or.inr (Or.inr h)
    · rintro (h | h | h)
      · exact Or.inr (Or.inl h)
      · exact Or.inl h
      · exact Or.inr (Or.inr h)
  have hnd : (ms[k] :: (ms.take k ++ ms.drop (k + 1))).map (fun s => s.f0) |>.Nodup := by
    have hp : (ms[k] :: (ms.take k ++ ms.drop (k + 1))).Perm ms := by
      conv => rhs; rw [e0]
      exact List.perm_middle.symm
    exact (hp.map _).nodup_iff.2 h.1
  rw [List.map_cons, List.nodup_cons] at hnd
  refine ⟨hnd.2, fun w a => ?_⟩
  unfold updM
  by_cases e : w = ms[k].f0
  · rw [if_pos e]
    constructor
    · intro h; cases h
    · rintro ⟨s, hs, e1, _⟩
      exact absurd (List.mem_map.2 ⟨s, hs, by rw [e1, e]⟩) hnd.1
  · rw [if_neg e, h.2 w a]
    constructor
    · rintro ⟨s, hs, e1, e2⟩
      rcases (hsub s).1 hs with h3 | h3
      · exact absurd (by rw [← e1, h3]) e
      · exact ⟨s, h3, e1, e2⟩
    · rintro ⟨s, hs, e1⟩
      exact ⟨s, (hsub s).2 (Or.inr hs), e1⟩
/-- No later than, by when and who. -/
def leK (s t : S30) : Prop := s.f1 < t.f1 ∨ (s.f1 = t.f1 ∧ s.f0 ≤ t.f0)
theorem leK_trans {a b c : S30} (h : leK a b) (k : leK b c) : leK a c := by unfold leK at *; omega
theorem first_go (ms : List S30) (hl : ms.length ≤ 1000000) : ∀ (d j best : Nat), j + d = ms.length → best < j → (∀ (i : Nat) (hi : i < ms.length), i < j → leK (ms.getD best z30) ms[i]) → ∃ r : Nat, r < ms.length ∧ offertorylaw19_first.l0 (d + 1) ms (best : Int) (j : Int) = some (r : Int) ∧ ∀ (i : Nat) (hi : i < ms.length), leK (ms.getD r z30) ms[i] := by
  intro d
  induction d with
  | zero =>
    intro j best hj hb h
    refine ⟨best, by omega, ?_, fun i hi => h i hi (by omega)⟩
    unfold offertorylaw19_first.l0
    rw [if_neg (by omega)]
  | succ d ih =>
    intro j best hj hb h
    have hjl : j < ms.length := by omega
    have e : wrap64 ((j : Int) + 1) = ((j + 1 : Nat) : Int) := by unfold wrap64; omega
    have e1 : rd_T30 ms (j : Int) = ms[j] := by show ms.getD j z30 = _; simp [List.getD, hjl]
    have e2 : rd_T30 ms (best : Int) = ms.getD best z30 := rfl
    have keep : leK (ms.getD best z30) ms[j] → ∀ (i : Nat) (hi : i < ms.length), i < j + 1 → leK (ms.getD best z30) ms[i] := fun hle i hi hij => by
      by_cases c : i = j
      · subst c; exact hle
      · exact h i hi (by omega)
    have turn : leK ms[j] (ms.getD best z30) → ∀ (i : Nat) (hi : i < ms.length), i < j + 1 → leK (ms.getD j z30) ms[i] := fun hle i hi hij => by
      have ej : ms.getD j z30 = ms[j] := by simp [List.getD, hjl]
      rw [ej]
      by_cases c : i = j
      · subst c; exact Or.inr ⟨rfl, Int.le_refl _⟩
      · exact leK_trans hle (h i hi (by omega))
    unfold offertorylaw19_first.l0
    rw [if_pos (by omega), if_neg (by omega), if_pos (by omega), if_pos (by omega), if_pos (by omega), e1, e2, e]
    by_cases c1 : ms[j].f1 < (ms.getD best z30).f1
    · rw [if_pos c1]
      exact ih (j + 1) j (by omega) (by omega) (turn (Or.inl c1))
    · rw [if_neg c1]
      by_cases c2 : ms[j].f1 = (ms.getD best z30).f1
      · rw [if_pos c2]
        by_cases c3 : ms[j].f0 < (ms.getD best z30).f0
        · rw [if_pos c3]
          exact ih (j + 1) j (by omega) (by omega) (turn (Or.inr ⟨c2, by omega⟩))
        · rw [if_neg c3]
          exact ih (j + 1) best (by omega) (by omega) (keep (Or.inr ⟨c2.symm, by omega⟩))
      · rw [if_neg c2]
        exact ih (j + 1) best (by omega) (by omega) (keep (Or.inl (by omega)))
theorem first_nil : offertorylaw19_first.f 1 [] = some (-1) := by
  unfold offertorylaw19_first.f offertorylaw19_first.l0
  rw [if_neg (by simp)]
theorem first_some (ms : List S30) (h0 : 0 < ms.length) (hl : ms.length ≤ 1000000) : ∃ k, ∃ r : Nat, r < ms.length ∧ offertorylaw19_first.f k ms = some (r : Int) ∧ ∀ (i : Nat) (hi : i < ms.length), leK (ms.getD r z30) ms[i] := by
  obtain ⟨d, hd⟩ : ∃ d, ms.length = d + 1 := ⟨ms.length - 1, by omega⟩
  obtain ⟨r, h1, h2, h3⟩ := first_go ms hl d 1 0 (by omega) (by omega) (fun i hi hi1 => by
    have : i = 0 := by omega
    subst this
    have e : ms.getD 0 z30 = ms[0] := by simp [List.getD, h0]
    rw [e]
    exact Or.inr ⟨rfl, Int.le_refl _⟩)
  refine ⟨d + 2, r, h1, ?_, h3⟩
  unfold offertorylaw19_first.f offertorylaw19_first.l0
  have e : wrap64 (0 + 1) = ((1 : Nat) : Int) := by unfold wrap64; omega
  rw [if_pos (by omega), if_pos (by omega), e]
  exact h2
/-- What comes first among the marks is what stands first in the bell. -/
theorem first_root {b : Nat} {W : World} {g : Nat} {l : List El} {m : Int → Option Int} {ms : List S30} (h : BeX b W g l) (hm : HasM l m) (hk : HasK ms m) {r : Nat} (hr : r < ms.length) (hle : ∀ (i : Nat) (hi : i < ms.length), leK (ms.getD r z30) ms[i]) : 0 < l.length ∧ (l.getD 0 d0).2 = (ms[r].f1, ms[r].f0) := by
  have e : ms.getD r z30 = ms[r] := by simp [List.getD, hr]
  rw [e] at hle
  refine root_is h hm ms[r].f1 ms[r].f0 (hk.at hr) (fun w' a' h' => ?_)
  obtain ⟨s, hs, e1, e2⟩ := (hk.2 _ _).1 h'
  obtain ⟨i, hi, rfl⟩ := List.getElem_of_mem hs
  have := hle i hi
  unfold leK at this
  rw [e1, e2] at this
  exact this

end Go.Proofs.Ytjmfhlapjghipaa.PAll
