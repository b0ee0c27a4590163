/- Layer 25: what the warden sees, in whole numbers. -/
import Derived.Test.YtpicmnkkkgedeaaDoorPAllx15

import Derived.Test.YtpicmnkkkgedeaaDoorPlainIdealCheck
import Derived.Test.YtpicmnkkkgedeaaDoorPlainRing25
namespace Go.Proofs.YtpicmnkkkgedeaaDoor.Plain
open Go.RowKit Go.Proofs.YtpicmnkkkgedeaaDoor.PAll Go.Proofs.YtpicmnkkkgedeaaDoor.Opn Go.Proofs.YtpicmnkkkgedeaaDoor.Base Go.Proofs.YtpicmnkkkgedeaaDoorW.PrintWords Go.Proofs.YtpicmnkkkgedeaaDoorW.PrintLast Go.Proofs.YtpicmnkkkgedeaaDoorW.PrintMore
set_option linter.unusedVariables false
set_option linter.unusedSimpArgs false
theorem mapO_ev {α : Type} {f : Nat → Nat → Option α} {v : Nat → α} : ∀ n : Nat, (∀ i, i < n → Ev (fun k => f k i) (v i)) → Ev (fun k => mapO (f k) n) ((List.range n).map v)
  | 0, _ => Ev.now _
  | n + 1, h => by
    simp only [mapO]
    refine Ev.bind (mapO_ev n fun i hi => h i (by omega)) (Ev.bind (h n (by omega)) (Ev.some_ ?_))
    rw [List.range_succ, List.map_append]
    rfl
theorem mapO_some {α : Type} {f : Nat → Option α} {v : Nat → α} : ∀ n : Nat, (∀ i, i < n → f i = some (v i)) → mapO f n = some ((List.range n).map v)
  | 0, _ => rfl
  | n + 1, h => by
    simp only [mapO]
    rw [mapO_some n fun i hi => h i (by omega), h n (by omega), List.range_succ, List.map_append]
    rfl
/-- A sum from p on, of m numbers. -/
def sumF (f : Nat → Int) : Nat → Nat → Int
  | _, 0 => 0
  | p, m + 1 => f p + sumF f (p + 1) m
theorem sumF_congr {f g : Nat → Int} : ∀ (m p : Nat), (∀ j, p ≤ j → j < p + m → f j = g j) → sumF f p m = sumF g p m
  | 0, _, _ => rfl
  | m + 1, p, h => by
    unfold sumF
    rw [h p (Nat.le_refl _) (by omega), sumF_congr m (p + 1) (fun j h1 h2 => h j (by omega) (by omega))]
theorem sumF_add (f g : Nat → Int) : ∀ (m p : Nat), sumF (fun j => f j + g j) p m = sumF f p m + sumF g p m
  | 0, _ => rfl
  | m + 1, p => by
    have := sumF_add f g m (p + 1)
    show f p + g p + sumF (fun j => f j + g j) (p + 1) m = (f p + sumF f (p + 1) m) + (g p + sumF g (p + 1) m)
    omega
theorem sumF_zero : ∀ (m p : Nat), sumF (fun _ => 0) p m = 0
  | 0, _ => rfl
  | m + 1, p => by
    have := sumF_zero m (p + 1)
    show 0 + sumF (fun _ => 0) (p + 1) m = 0
    omega
/-- The mask of two, by their places. -/
def pv (l2 : List (List (List Int))) (i j : Nat) : List Int := (l2.getD i []).getD j []
/-- What a donor's gift has of another donor's mask, in a column. -/
def tc (l2 : List (List (List Int))) (s i c j : Nat) : Int := if s.testBit j = true then (if i < j then (pv l2 i j).getD c 0 else if j < i then - (pv l2 j i).getD c 0 else 0) else 0
/-- Masks of n donors and nn numbers. -/
structure Fine (l1 : List (List Int)) (l2 : List (List (List Int))) (n nn : Nat) : Prop where
  n1 : 1 ≤ n ∧ n ≤ 64
  nn1 : nn ≤ 256
  o1 : l1.length = n
  o2 : ∀ i : Nat, i < n → (l1.getD i []).length = nn
  p1 : l2.length = n
  p2 : ∀ i : Nat, i < n → (l2.getD i []).length = n
  p3 : ∀ i j : Nat, i < n → j < n → (pv l2 i j).length = if j ≤ i then 0 else nn
theorem fine_of {l1 : List (List Int)} {l2 : List (List (List Int))} {n nn : Nat} : SoundM l1 l2 (n : Int) (nn : Int) ↔ Fine l1 l2 n nn := by
  constructor
  · rintro ⟨h1, h2, h3, h4, h5, h6⟩
    refine ⟨by omega, by omega, by omega, fun i hi => by have := h5 i (by omega); omega, by omega, fun i hi => by have := (h6 i (by omega)).1; omega, fun i j hi hj => ?_⟩
    have h7 := h6 i (by omega)
    have h8 := h7.2 j (by have := h7.1; omega)
    unfold pv
    by_cases e : j ≤ i
    · rw [if_pos e] at h8 ⊢
      omega
    · rw [if_neg e] at h8 ⊢
      omega
  · rintro ⟨h1, h2, h3, h4, h5, h6, h7⟩
    refine ⟨by omega, by omega, by omega, by omega, fun i hi => by have := h4 i (by omega); omega, fun i hi => ⟨by have := h6 i (by omega); omega, fun j hj => ?_⟩⟩
    have h8 := h7 i j (by omega) (by have := h6 i (by omega); omega)
    unfold pv at h8
    by_cases e : j ≤ i
    · rw [if_pos e] at h8 ⊢
      omega
    · rw [if_neg e] at h8 ⊢
      omega
theorem addL_mod {a b : List Int} {c : Nat} {S : Int} (hl : a.length = b.length) (hc : c < a.length) (ha : a.getD c 0 = S % 4294967296) : (addL a b).getD c 0 = (S + b.getD c 0) % 4294967296 := by
  rw [addL_get hl c hc, ha]
  omega
theorem subL_mod {a b : List Int} {c : Nat} {S : Int} (hl : a.length = b.length) (hc : c < a.length) (ha : a.getD c 0 = S % 4294967296) : (subL a b).getD c 0 = (S + - b.getD c 0) % 4294967296 := by
  rw [subL_get hl c hc, ha]
  omega
theorem giftL_ev {l1 : List (List Int)} {l2 : List (List (List Int))} {n nn : Nat} (F : Fine l1 l2 n nn) (s i : Nat) (hi : i < n) (hs : ∀ j : Nat, s.testBit j = true → j < n) : ∀ (m p : Nat) (o : List Int) (S : Nat → Int), p + m = 64 → o.length = nn → (∀ c, c < nn → o.getD c 0 = S c % 4294967296) →
    ∃ r : List Int, Ev (fun k => giftL k l2 (i : Int) (lst m p (s / 2 ^ p)) o) r ∧ r.length = nn ∧ ∀ c, c < nn → r.getD c 0 = (S c + sumF (tc l2 s i c) p m) % 4294967296 := by
  intro m
  induction m with
  | zero =>
    intro p o S hp ho hS
    refine ⟨o, ?_, ho, fun c hc => ?_⟩
    · simp only [lst, giftL]
      exact Ev.now _
    · rw [hS c hc]
      simp [sumF]
  | succ m ih =>
    intro p o S hp ho hS
    have hn := F.n1
    have hnn := F.nn1
    have e3 : s / 2 ^ p / 2 = s / 2 ^ (p + 1) := by rw [Nat.div_div_eq_div_mul, Nat.pow_succ]
    have hb : (s / 2 ^ p % 2 = 1) ↔ s.testBit p = true := by rw [Nat.testBit_eq_decide_div_mod_eq, decide_eq_true_eq]
    have hl : lst (m + 1) p (s / 2 ^ p) = if s / 2 ^ p % 2 = 1 then ((p : Int) + 1) :: lst m (p + 1) (s / 2 ^ p / 2) else lst m (p + 1) (s / 2 ^ p / 2) := rfl
    rw [hl, e3]
    by_cases hbit : s.testBit p = true
    · have hpn := hs p hbit
      rw [if_pos (hb.2 hbit)]
      have hw : wrap64 ((p : Int) + 1 - 1) = (p : Int) := by rw [w64 (by omega)]; omega
      rcases Nat.lt_trichotomy i p with h | h | h
      · have hx : (pv l2 i p).length = nn := by rw [F.p3 i p hi hpn, if_neg (by omega)]
        obtain ⟨r, h1, h2, h3⟩ := ih (p + 1) (addL o (pv l2 i p)) (fun c => S c + (pv l2 i p).getD c 0) (by omega) (by rw [addL_length (by rw [ho, hx]), ho]) (fun c hc => addL_mod (by rw [ho, hx]) (by omega) (hS c hc))
        refine ⟨r, ?_, h2, fun c hc => ?_⟩
        · simp only [giftL, hw]
          refine Ev.pos (by omega) (Ev.pos ⟨by omega, by rw [F.p1]; omega, by omega, ?_⟩ (Ev.bind (add_f o (pv l2 i p) (by rw [ho, hx]) (by omega)) h1))
          show (p : Int) < ((l2.getD i []).length : Int)
          rw [F.p2 i hi]
          omega
        · rw [h3 c hc]
          have e : tc l2 s i c p = (pv l2 i p).getD c 0 := by unfold tc; rw [if_pos hbit, if_pos h]
          show _ = (S c + (tc l2 s i c p + sumF (tc l2 s i c) (p + 1) m)) % 4294967296
          rw [e, Int.add_assoc]
      · subst h
        obtain ⟨r, h1, h2, h3⟩ := ih (i + 1) o S (by omega) ho hS
        refine ⟨r, ?_, h2, fun c hc => ?_⟩
        · simp only [giftL, hw]
          exact Ev.neg (by omega) (Ev.neg (by omega) h1)
        · rw [h3 c hc]
          have e : tc l2 s i c i = 0 := by unfold tc; rw [if_pos hbit, if_neg (by omega), if_neg (by omega)]
          show _ = (S c + (tc l2 s i c i + sumF (tc l2 s i c) (i + 1) m)) % 4294967296
          rw [e, Int.zero_add]
      · have hx : (pv l2 p i).length = nn := by rw [F.p3 p i hpn hi, if_neg (by omega)]
        obtain ⟨r, h1, h2, h3⟩ := ih (p + 1) (subL o (pv l2 p i)) (fun c => S c + - (pv l2 p i).getD c 0) (by omega) (by rw [subL_length (by rw [ho, hx]), ho]) (fun c hc => subL_mod (by rw [ho, hx]) (by omega) (hS c hc))
        refine ⟨r, ?_, h2, fun c hc => ?_⟩
        · simp only [giftL, hw]
          refine Ev.neg (by omega) (Ev.pos (by omega) (Ev.pos ⟨by omega, by rw [F.p1]; omega, by omega, ?_⟩ (Ev.bind (sub_f o (pv l2 p i) (by rw [ho, hx]) (by omega)) h1)))
          show (i : Int) < ((l2.getD p []).length : Int)
          rw [F.p2 p hpn]
          omega
        · rw [h3 c hc]
          have e : tc l2 s i c p = - (pv l2 p i).getD c 0 := by unfold tc; rw [if_pos hbit, if_neg (by omega), if_pos h]
          show _ = (S c + (tc l2 s i c p + sumF (tc l2 s i c) (p + 1) m)) % 4294967296
          rw [e, Int.add_assoc]
    · rw [if_neg (fun h => hbit (hb.1 h))]
      obtain ⟨r, h1, h2, h3⟩ := ih (p + 1) o S (by omega) ho hS
      refine ⟨r, h1, h2, fun c hc => ?_⟩
      rw [h3 c hc]
      have e : tc l2 s i c p = 0 := by unfold tc; rw [if_neg hbit]
      show _ = (S c + (tc l2 s i c p + sumF (tc l2 s i c) (p + 1) m)) % 4294967296
      rw [e, Int.zero_add]
theorem len_pos {l0 l1 : List (List Int)} {l2 : List (List (List Int))} (h : ChkA l0 l1 l2) : Fine l1 l2 l0.length (l0.getD 0 []).length := fine_of.1 h.2.2
/-- What a donor gives, number by number. -/
def gv (l0 l1 : List (List Int)) (l2 : List (List (List Int))) (s nn i : Nat) : List Int := (List.range nn).map fun c => ((l0.getD i []).getD c 0 + (l1.getD i []).getD c 0 + sumF (tc l2 s i c) 0 64) % 4294967296
theorem map_getD {α : Type} (f : Nat → α) (n c : Nat) (h : c < n) (z : α) : ((List.range n).map f).getD c z = f c := by
  simp [List.getD, h]
theorem gv_len (l0 l1 : List (List Int)) (l2 : List (List (List Int))) (s nn i : Nat) : (gv l0 l1 l2 s nn i).length = nn := by simp [gv]
theorem gv_get (l0 l1 : List (List Int)) (l2 : List (List (List Int))) (s nn i c : Nat) (h : c < nn) : (gv l0 l1 l2 s nn i).getD c 0 = ((l0.getD i []).getD c 0 + (l1.getD i []).getD c 0 + sumF (tc l2 s i c) 0 64) % 4294967296 := map_getD _ nn c h 0
theorem gift_ev {l0 l1 : List (List Int)} {l2 : List (List (List Int))} {n nn : Nat} (F : Fine l1 l2 n nn) (h0 : l0.length = n) (h1 : ∀ i : Nat, i < n → (l0.getD i []).length = nn) (s i : Nat) (hi : i < n) (hs : ∀ j : Nat, s.testBit j = true → j < n) (hs64 : s < 18446744073709551616) :
    Ev (fun k => ideal_gift.f k l0 l1 l2 (s : Int) (i : Int)) (gv l0 l1 l2 s nn i) := by
  have hnn := F.nn1
  have ha := h1 i hi
  have hb := F.o2 i hi
  obtain ⟨r, e1, e2, e3⟩ := giftL_ev F s i hi hs 64 0 (addL (l0.getD i []) (l1.getD i [])) (fun c => (l0.getD i []).getD c 0 + (l1.getD i []).getD c 0) (by omega) (by rw [addL_length (by rw [ha, hb]), ha]) (fun c hc => addL_get (by rw [ha, hb]) c (by omega))
  have er : r = gv l0 l1 l2 s nn i := ext_getD (by rw [e2, gv_len]) (fun c hc => by rw [e3 c (by omega), gv_get _ _ _ _ _ _ _ (by omega)])
  subst er
  unfold ideal_gift.f
  refine Ev.pos ⟨by omega, by omega, by rw [F.o1]; omega⟩ (Ev.bind (add_f (l0.getD i []) (l1.getD i []) (by rw [ha, hb]) (by omega)) (Ev.bind (list_f s hs64) (Ev.pos ?_ ?_)))
  · have := L_len s
    omega
  · have h := e1
    rw [Nat.pow_zero, Nat.div_one] at h
    exact h
theorem has_i (s i : Nat) (hs : s < 18446744073709551616) (hi : i < 64) : crowd_Has.f (s : Int) ((i : Int) + 1) = some (s.testBit i) := by
  rw [hass_f s _ hs]
  unfold hasB
  rw [decide_eq_true (by omega), Bool.true_and]
  congr 2
  omega
def GsV (l0 l1 : List (List Int)) (l2 : List (List (List Int))) (s n nn : Nat) : List (List Int) := (List.range n).map fun i => if s.testBit i = true then gv l0 l1 l2 s nn i else []
def OsV (l1 : List (List Int)) (g n : Nat) : List (List Int) := (List.range n).map fun i => if g.testBit i = true then l1.getD i [] else []
def leftV (l2 : List (List (List Int))) (s g i j : Nat) : List Int := if j ≤ i then [] else if (s.testBit i && s.testBit j && !(g.testBit i && g.testBit j)) = true then pv l2 i j else []
def LsV (l2 : List (List (List Int))) (s g n : Nat) : List (List (List Int)) := (List.range n).map fun i => (List.range n).map fun j => leftV l2 s g i j
theorem see_ev (l0 l1 : List (List Int)) (l2 : List (List (List Int))) (s g : Nat) (hs : s < 18446744073709551616) (hg : g < 18446744073709551616) (hA : ChkA l0 l1 l2) (hW : ChkW l0.length s g) :
    Ev (fun k => ideal_See.f k l0 l1 l2 (s : Int) (g : Int)) (GsV l0 l1 l2 s l0.length (l0.getD 0 []).length, OsV l1 g l0.length, LsV l2 s g l0.length, 0) := by
  have F := len_pos hA
  have hn := F.n1
  have hnn := F.nn1
  obtain ⟨e, he, hR⟩ := checkP_f l0 l1 l2 s g hs hg (by rw [F.p1]; omega)
  have e0 : e = 0 := hR.unique (Or.inl ⟨hA, hW, rfl⟩)
  subst e0
  unfold ideal_See.f
  refine Ev.bind he (Ev.pos rfl (Ev.pos ⟨by omega, F.o1, F.p1, fun x hx => ?_⟩ (Ev.bind (mapO_ev (v := fun i => if s.testBit i = true then gv l0 l1 l2 s (l0.getD 0 []).length i else []) _ (fun i hi => ?_)) (Ev.bind0 (a := OsV l1 g l0.length) ?_ (Ev.bind0 (a := LsV l2 s g l0.length) ?_ (Ev.now _))))))
  · obtain ⟨i, hi, rfl⟩ := List.getElem_of_mem hx
    have := F.p2 i (by rw [← F.p1]; exact hi)
    rwa [getD_eq hi] at this
  · unfold seeG
    refine Ev.bind0 (has_i s i hs (by omega)) ?_
    refine Ev.if_ (fun h => ?_) (fun h => Ev.some_ ?_)
    · simp only [h, if_true]
      exact gift_ev F rfl hA.2.1 s i hi hW.1 hs
    · rw [if_neg h]
  · refine mapO_some _ fun i hi => ?_
    unfold seeO
    rw [has_i g i hg (by omega)]
    by_cases h : g.testBit i = true
    · simp only [Option.bind_some, h, if_true]
      exact clone_f (by have := F.o2 i hi; show (l1.getD i []).length ≤ 1000000; omega)
    · simp only [Option.bind_some, if_neg h]
  · refine mapO_some _ fun i hi => mapO_some _ fun j hj => ?_
    unfold seeL leftV
    by_cases hji : j ≤ i
    · rw [if_pos hji, if_pos hji]
    · rw [if_neg hji, if_neg hji, has_i s i hs (by omega), has_i s j hs (by omega), has_i g i hg (by omega), has_i g j hg (by omega)]
      simp only [Option.bind_some]
      by_cases h : (s.testBit i && s.testBit j && !(g.testBit i && g.testBit j)) = true
      · rw [if_pos h, if_pos h]
        exact clone_f (by have := F.p3 i j hi hj; rw [if_neg hji] at this; show (pv l2 i j).length ≤ 1000000; omega)
      · rw [if_neg h, if_neg h]
end Go.Proofs.YtpicmnkkkgedeaaDoor.Plain
