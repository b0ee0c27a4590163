/- Turn in plain words: what it adds to the masks, number by number. -/
import Derived.Test.YtpicmnkkkgedeaaDoorPAllx16

import Derived.Test.YtpicmnkkkgedeaaDoorPlainIdealSee
namespace Go.Proofs.YtpicmnkkkgedeaaDoor.Plain
open Go.RowKit Go.Proofs.YtpicmnkkkgedeaaDoor.PAll Go.Proofs.YtpicmnkkkgedeaaDoor.Opn Go.Proofs.YtpicmnkkkgedeaaDoor.Base Go.Proofs.YtpicmnkkkgedeaaDoorW.PrintWords Go.Proofs.YtpicmnkkkgedeaaDoorW.PrintLast Go.Proofs.YtpicmnkkkgedeaaDoorW.PrintMore
set_option linter.unusedVariables false
set_option linter.unusedSimpArgs false
theorem set_getDG {α : Type} (c : List α) (i j : Nat) (v z : α) (hi : i < c.length) : (c.set i v).getD j z = if i = j then v else c.getD j z := by
  by_cases e : i = j
  · subst e; simp [List.getD_eq_getElem?_getD, hi]
  · simp [List.getD_eq_getElem?_getD, e]
theorem sumF_snoc2 (f : Nat → Int) : ∀ (m p : Nat), sumF f p (m + 1) = sumF f p m + f (p + m)
  | 0, p => by show f p + 0 = 0 + f (p + 0); rw [Nat.add_zero]; omega
  | m + 1, p => by
    have := sumF_snoc2 f m (p + 1)
    show f p + sumF f (p + 1) (m + 1) = (f p + sumF f (p + 1) m) + f (p + (m + 1))
    rw [this, show p + 1 + m = p + (m + 1) by omega]
    omega
/-- The last of those who gave ahead of a place. -/
def lastg (g : Nat) : Nat → Int
  | 0 => -1
  | i + 1 => if g.testBit i = true then (i : Int) else lastg g i
theorem lastg_lt (g : Nat) : ∀ i : Nat, -1 ≤ lastg g i ∧ lastg g i < (i : Int)
  | 0 => by unfold lastg; omega
  | i + 1 => by
    have := lastg_lt g i
    unfold lastg
    split <;> omega
def dd (a b : List (List Int)) (g c i : Nat) : Int := if g.testBit i = true then (a.getD i []).getD c 0 - (b.getD i []).getD c 0 else 0
def oD (a b : List (List Int)) (s g i c : Nat) : Int := if g.testBit i = true then 0 else if s.testBit i = true then (a.getD i []).getD c 0 - (b.getD i []).getD c 0 else 0
def pD (a b : List (List Int)) (g i j c : Nat) : Int := if g.testBit j = true then (if lastg g j = (i : Int) then sumF (dd a b g c) 0 j else 0) else 0
/-- Masks that came of others by adding fixed numbers. -/
structure Td (l1 : List (List Int)) (l2 : List (List (List Int))) (n nn : Nat) (D : Nat → Nat → Int) (E : Nat → Nat → Nat → Int) (o : List (List Int)) (p : List (List (List Int))) : Prop where
  f : Fine o p n nn
  ov : ∀ j c : Nat, j < n → c < nn → (o.getD j []).getD c 0 = ((l1.getD j []).getD c 0 + D j c) % 4294967296
  pw : ∀ j k c : Nat, j < k → k < n → c < nn → (pv p j k).getD c 0 = ((pv l2 j k).getD c 0 + E j k c) % 4294967296
theorem Td.congr {l1 : List (List Int)} {l2 : List (List (List Int))} {n nn : Nat} {D D' : Nat → Nat → Int} {E E' : Nat → Nat → Nat → Int} {o : List (List Int)} {p : List (List (List Int))} (h : Td l1 l2 n nn D E o p) (hD : ∀ j c : Nat, j < n → D' j c = D j c) (hE : ∀ j k c : Nat, k < n → E' j k c = E j k c) : Td l1 l2 n nn D' E' o p :=
  ⟨h.f, fun j c hj hc => by rw [hD j c hj]; exact h.ov j c hj hc, fun j k c hjk hk hc => by rw [hE j k c hk]; exact h.pw j k c hjk hk hc⟩
theorem Td.own {l1 : List (List Int)} {l2 : List (List (List Int))} {n nn : Nat} {D D' : Nat → Nat → Int} {E : Nat → Nat → Nat → Int} {o : List (List Int)} {p : List (List (List Int))} (h : Td l1 l2 n nn D E o p) (i : Nat) (hi : i < n) (x : List Int) (hx : x.length = nn)
    (hv : ∀ c : Nat, c < nn → x.getD c 0 = ((l1.getD i []).getD c 0 + D' i c) % 4294967296) (hD : ∀ j c : Nat, j ≠ i → D' j c = D j c) : Td l1 l2 n nn D' E (o.set i x) p := by
  have hl : i < o.length := by rw [h.f.o1]; exact hi
  refine ⟨⟨h.f.n1, h.f.nn1, by rw [List.length_set]; exact h.f.o1, fun j hj => ?_, h.f.p1, h.f.p2, h.f.p3⟩, fun j c hj hc => ?_, h.pw⟩
  · rw [set_getDG o i j x [] hl]
    split
    · exact hx
    · exact h.f.o2 j hj
  · rw [set_getDG o i j x [] hl]
    by_cases e : i = j
    · subst e
      rw [if_pos rfl]
      exact hv c hc
    · rw [if_neg e, hD j c (Ne.symm e)]
      exact h.ov j c hj hc
theorem pv_set (p : List (List (List Int))) (q i j k : Nat) (x : List Int) (hq : q < p.length) (hi : i < (p.getD q []).length) : pv (p.set q ((p.getD q []).set i x)) j k = if q = j ∧ i = k then x else pv p j k := by
  unfold pv
  rw [set_getDG p q j _ [] hq]
  by_cases e : q = j
  · subst e
    rw [if_pos rfl, set_getDG _ i k _ [] hi]
    by_cases e2 : i = k
    · rw [if_pos e2, if_pos ⟨rfl, e2⟩]
    · rw [if_neg e2, if_neg (fun h => e2 h.2)]
  · rw [if_neg e, if_neg (fun h => e h.1)]
theorem Td.pair {l1 : List (List Int)} {l2 : List (List (List Int))} {n nn : Nat} {D : Nat → Nat → Int} {E E' : Nat → Nat → Nat → Int} {o : List (List Int)} {p : List (List (List Int))} (h : Td l1 l2 n nn D E o p) (q i : Nat) (hq : q < i) (hi : i < n) (x : List Int) (hx : x.length = nn)
    (hv : ∀ c : Nat, c < nn → x.getD c 0 = ((pv l2 q i).getD c 0 + E' q i c) % 4294967296) (hE : ∀ j k c : Nat, ¬ (q = j ∧ i = k) → E' j k c = E j k c) : Td l1 l2 n nn D E' o (p.set q ((p.getD q []).set i x)) := by
  have hl : q < p.length := by rw [h.f.p1]; omega
  have hl2 : i < (p.getD q []).length := by rw [h.f.p2 q (by omega)]; exact hi
  refine ⟨⟨h.f.n1, h.f.nn1, h.f.o1, h.f.o2, by rw [List.length_set]; exact h.f.p1, fun j hj => ?_, fun j k hj hk => ?_⟩, h.ov, fun j k c hjk hk hc => ?_⟩
  · rw [set_getDG p q j _ [] hl]
    split
    · rw [List.length_set]; exact h.f.p2 q (by omega)
    · exact h.f.p2 j hj
  · rw [pv_set p q i j k x hl hl2]
    by_cases e : q = j ∧ i = k
    · rw [if_pos e, if_neg (by omega)]
      exact hx
    · rw [if_neg e]
      exact h.f.p3 j k hj hk
  · rw [pv_set p q i j k x hl hl2]
    by_cases e : q = j ∧ i = k
    · rw [if_pos e]
      obtain ⟨rfl, rfl⟩ := e
      exact hv c hc
    · rw [if_neg e, hE j k c e]
      exact h.pw j k c hjk hk hc
theorem turnS_ev (a b : List (List Int)) {l1 : List (List Int)} {l2 : List (List (List Int))} {n nn : Nat} (s g : Nat) (hs : s < 18446744073709551616) (hg : g < 18446744073709551616) (ha : ∀ i : Nat, i < n → (a.getD i []).length = nn) (hb : ∀ i : Nat, i < n → (b.getD i []).length = nn) :
    ∀ (m i : Nat) (o : List (List Int)) (p : List (List (List Int))) (r : List Int), i + m = n → Td l1 l2 n nn (fun j c => if j < i then oD a b s g j c else 0) (fun j k c => if k < i then pD a b g j k c else 0) o p → r.length = nn → (∀ c : Nat, c < nn → r.getD c 0 = sumF (dd a b g c) 0 i % 4294967296) →
    ∃ (o' : List (List Int)) (p' : List (List (List Int))) (r' : List Int), Ev (fun k => turnS k a b (s : Int) (g : Int) m i o p r (lastg g i)) (o', p', r') ∧ Td l1 l2 n nn (oD a b s g) (pD a b g) o' p' ∧ r'.length = nn ∧ ∀ c : Nat, c < nn → r'.getD c 0 = sumF (dd a b g c) 0 n % 4294967296 := by
  intro m
  induction m with
  | zero =>
    intro i o p r hi hT hr hv
    obtain rfl : i = n := by omega
    exact ⟨o, p, r, Ev.now _, hT.congr (fun j c hj => (if_pos hj).symm) (fun j k c hk => (if_pos hk).symm), hr, hv⟩
  | succ m ih =>
    intro i o p r hi hT hr hv
    have hn := hT.f.n1
    have hnn := hT.f.nn1
    have hin : i < n := by omega
    have hai := ha i hin
    have hbi := hb i hin
    have hab : (a.getD i []).length = (b.getD i []).length := by omega
    have hsub := sub_f (a.getD i []) (b.getD i []) hab (by omega)
    have hdl : (subL (a.getD i []) (b.getD i [])).length = nn := by rw [subL_length hab]; exact hai
    have hdv : ∀ c : Nat, c < nn → (subL (a.getD i []) (b.getD i [])).getD c 0 = ((a.getD i []).getD c 0 - (b.getD i []).getD c 0) % 4294967296 := fun c hc => subL_get hab c (by omega)
    have hl := lastg_lt g i
    have hsn : ∀ c : Nat, sumF (dd a b g c) 0 (i + 1) = sumF (dd a b g c) 0 i + dd a b g c i := fun c => by
      have := sumF_snoc2 (dd a b g c) i 0
      rwa [Nat.zero_add] at this
    simp only [turnS]
    by_cases hgi : g.testBit i = true
    · have hlast : lastg g (i + 1) = (i : Int) := by unfold lastg; rw [if_pos hgi]
      have hdi : ∀ c : Nat, dd a b g c i = (a.getD i []).getD c 0 - (b.getD i []).getD c 0 := fun c => by unfold dd; rw [if_pos hgi]
      have hrl : (addL r (subL (a.getD i []) (b.getD i []))).length = nn := by rw [addL_length (by omega)]; exact hr
      have hrv : ∀ c : Nat, c < nn → (addL r (subL (a.getD i []) (b.getD i []))).getD c 0 = sumF (dd a b g c) 0 (i + 1) % 4294967296 := fun c hc => by
        rw [addL_get (by omega) c (by omega), hv c hc, hdv c hc, hsn c, hdi c]
        omega
      have hE : ∃ p2, Ev (fun k => turnP k p r (lastg g i) i) p2 ∧ Td l1 l2 n nn (fun j c => if j < i + 1 then oD a b s g j c else 0) (fun j k c => if k < i + 1 then pD a b g j k c else 0) o p2 := by
        have hoD : ∀ j c : Nat, j < n → (if j < i + 1 then oD a b s g j c else 0) = if j < i then oD a b s g j c else 0 := fun j c _ => by
          by_cases e : j = i
          · subst e
            rw [if_pos (by omega), if_neg (by omega)]
            unfold oD
            rw [if_pos hgi]
          · by_cases h : j < i
            · rw [if_pos (by omega), if_pos h]
            · rw [if_neg (by omega), if_neg h]
        have hpD : ∀ j k c : Nat, ¬ (lastg g i = (j : Int) ∧ i = k) → (if k < i + 1 then pD a b g j k c else 0) = if k < i then pD a b g j k c else 0 := fun j k c hne => by
          by_cases e : k = i
          · subst e
            rw [if_pos (by omega), if_neg (by omega)]
            unfold pD
            rw [if_pos hgi, if_neg (fun h => hne ⟨h, rfl⟩)]
          · by_cases h : k < i
            · rw [if_pos (by omega), if_pos h]
            · rw [if_neg (by omega), if_neg h]
        unfold turnP
        by_cases h0 : 0 ≤ lastg g i
        · obtain ⟨q, hq⟩ : ∃ q : Nat, lastg g i = (q : Int) := ⟨(lastg g i).toNat, by omega⟩
          have hqi : q < i := by omega
          have hpl : (pv p q i).length = nn := by have := hT.f.p3 q i (by omega) hin; rwa [if_neg (by omega)] at this
          have hadd := add_f (pv p q i) r (by omega) (by omega)
          refine ⟨p.set q ((p.getD q []).set i (addL (pv p q i) r)), ?_, ?_⟩
          · rw [hq]
            refine Ev.pos (by omega) (Ev.bind hadd (Ev.now _))
          · refine (hT.congr (fun j c hj => hoD j c hj) (fun _ _ _ _ => rfl)).pair q i hqi hin _ (by rw [addL_length (by omega)]; exact hpl) (fun c hc => ?_) (fun j k c hne => hpD j k c (fun h => hne ⟨by omega, h.2⟩))
            have hpc := hT.pw q i c hqi hin hc
            rw [addL_get (by omega) c (by omega), hpc, hv c hc, if_neg (by omega), if_pos (by omega)]
            unfold pD
            rw [if_pos hgi, if_pos hq]
            omega
        · refine ⟨p, Ev.neg h0 (Ev.now _), hT.congr (fun j c hj => hoD j c hj) (fun j k c hk => hpD j k c (fun h => by omega))⟩
      obtain ⟨p2, hP, hT2⟩ := hE
      obtain ⟨o', p', r', he, hr'⟩ := ih (i + 1) o p2 _ (by omega) hT2 hrl hrv
      rw [hlast] at he
      exact ⟨o', p', r', Ev.bind hsub (Ev.bind0 (has_i g i hg (by omega)) (Ev.pos hgi (Ev.bind hP (Ev.bind (add_f r (subL (a.getD i []) (b.getD i [])) (by omega) (by omega)) he)))), hr'⟩
    · have hlast : lastg g (i + 1) = lastg g i := by show (if g.testBit i = true then (i : Int) else lastg g i) = _; rw [if_neg hgi]
      have hdi : ∀ c : Nat, dd a b g c i = 0 := fun c => by unfold dd; rw [if_neg hgi]
      have hrv : ∀ c : Nat, c < nn → r.getD c 0 = sumF (dd a b g c) 0 (i + 1) % 4294967296 := fun c hc => by rw [hsn c, hdi c, Int.add_zero]; exact hv c hc
      have hpD : ∀ j k c : Nat, (if k < i + 1 then pD a b g j k c else 0) = if k < i then pD a b g j k c else 0 := fun j k c => by
        by_cases e : k = i
        · subst e
          rw [if_pos (by omega), if_neg (by omega)]
          unfold pD
          rw [if_neg hgi]
        · by_cases h : k < i
          · rw [if_pos (by omega), if_pos h]
          · rw [if_neg (by omega), if_neg h]
      by_cases hsi : s.testBit i = true
      · have hol := hT.f.o2 i hin
        have hT2 : Td l1 l2 n nn (fun j c => if j < i + 1 then oD a b s g j c else 0) (fun j k c => if k < i + 1 then pD a b g j k c else 0) (o.set i (addL (o.getD i []) (subL (a.getD i []) (b.getD i [])))) p := by
          refine (hT.congr (fun _ _ _ => rfl) (fun j k c hk => hpD j k c)).own i hin _ (by rw [addL_length (by omega)]; exact hol) (fun c hc => ?_) (fun j c hne => ?_)
          · have hoc := hT.ov i c hin hc
            rw [addL_get (by omega) c (by omega), hoc, hdv c hc, if_neg (by omega), if_pos (by omega)]
            unfold oD
            rw [if_neg hgi, if_pos hsi]
            omega
          · by_cases h : j < i
            · rw [if_pos (by omega), if_pos h]
            · rw [if_neg (by omega), if_neg h]
        obtain ⟨o', p', r', he, hr'⟩ := ih (i + 1) _ p r (by omega) hT2 hr hrv
        rw [hlast] at he
        exact ⟨o', p', r', Ev.bind hsub (Ev.bind0 (has_i g i hg (by omega)) (Ev.neg hgi (Ev.bind0 (has_i s i hs (by omega)) (Ev.pos hsi (Ev.bind (add_f (o.getD i []) (subL (a.getD i []) (b.getD i [])) (by omega) (by omega)) he))))), hr'⟩
      · have hT2 := hT.congr (D' := fun j c => if j < i + 1 then oD a b s g j c else 0) (E' := fun j k c => if k < i + 1 then pD a b g j k c else 0) (fun j c hj => by
          by_cases e : j = i
          · subst e
            rw [if_pos (by omega), if_neg (by omega)]
            unfold oD
            rw [if_neg hgi, if_neg hsi]
          · by_cases h : j < i
            · rw [if_pos (by omega), if_pos h]
            · rw [if_neg (by omega), if_neg h]) (fun j k c hk => hpD j k c)
        obtain ⟨o', p', r', he, hr'⟩ := ih (i + 1) o p r (by omega) hT2 hr hrv
        rw [hlast] at he
        exact ⟨o', p', r', Ev.bind hsub (Ev.bind0 (has_i g i hg (by omega)) (Ev.neg hgi (Ev.bind0 (has_i s i hs (by omega)) (Ev.neg hsi he)))), hr'⟩
theorem nz_f (r : List Int) (hr : r.length ≤ 1000) : ∃ b, Ev (fun k => slices_ContainsFunc_uint32_uint32_28_f29.f k r 0) b ∧ (b = true ↔ ∃ c : Nat, c < r.length ∧ r.getD c 0 ≠ 0) := by
  have key : ∀ d i : Nat, i + d = r.length → (∀ c : Nat, c < i → r.getD c 0 = 0) → ∃ x : Int, Ev (fun k => slices_IndexFunc_uint32_uint32_43_f29.l0 k r (r.length : Int) (i : Int)) x ∧ (0 ≤ x ↔ ∃ c : Nat, c < r.length ∧ r.getD c 0 ≠ 0) := by
    intro d
    induction d with
    | zero =>
      intro i hi hz
      refine ⟨-1, Ev.succ ?_, ?_⟩
      · simp only [slices_IndexFunc_uint32_uint32_43_f29.l0]
        exact Ev.neg (by omega) (Ev.now _)
      · constructor
        · intro h; omega
        · rintro ⟨c, hc, hne⟩
          exact absurd (hz c (by omega)) hne
    | succ d ih =>
      intro i hi hz
      by_cases h : r.getD i 0 = 0
      · obtain ⟨x, hx, hb⟩ := ih (i + 1) (by omega) (fun c hc => by
          by_cases e : c = i
          · rw [e]; exact h
          · exact hz c (by omega))
        refine ⟨x, Ev.succ ?_, hb⟩
        simp only [slices_IndexFunc_uint32_uint32_43_f29.l0]
        rw [w64 (x := (i : Int) + 1) (by omega)]
        exact Ev.pos (by omega) (Ev.pos (by omega) (Ev.pos (by omega) (Ev.bind0 (a := false) (by show some (r.getD i 0 != 0) = some false; rw [h]; rfl) (Ev.neg (by decide) hx))))
      · refine ⟨(i : Int), Ev.succ ?_, ⟨fun _ => ⟨i, by omega, h⟩, fun _ => by omega⟩⟩
        simp only [slices_IndexFunc_uint32_uint32_43_f29.l0]
        exact Ev.pos (by omega) (Ev.pos (by omega) (Ev.pos (by omega) (Ev.bind0 (a := true) (by show some (r.getD i 0 != 0) = some true; rw [bne_iff_ne.2 h]) (Ev.pos rfl (Ev.now _)))))
  obtain ⟨x, hx, hb⟩ := key r.length 0 (Nat.zero_add _) (fun c hc => absurd hc (by omega))
  refine ⟨decide (x ≥ 0), ?_, by rw [decide_eq_true_eq]; exact hb⟩
  unfold slices_ContainsFunc_uint32_uint32_28_f29.f slices_IndexFunc_uint32_uint32_43_f29.f
  exact Ev.bind hx (Ev.now _)
theorem chk_zero {l0 l1 : List (List Int)} {l2 : List (List (List Int))} {s g : Nat} (h : ChkR l0 l1 l2 s g 0) : ChkA l0 l1 l2 ∧ ChkW l0.length s g := by
  rcases h with ⟨a, b, _⟩ | ⟨_, h⟩ | ⟨_, _, h⟩
  · exact ⟨a, b⟩
  · cases h
  · cases h
theorem chk_same {a b l1 : List (List Int)} {l2 : List (List (List Int))} (ha : ChkA a l1 l2) (hb : ChkA b l1 l2) : b.length = a.length ∧ (b.getD 0 []).length = (a.getD 0 []).length := by
  have F := len_pos ha
  have G := len_pos hb
  have h1 := F.o1
  have h2 := G.o1
  have h3 := F.o2 0 ha.1
  have h4 := G.o2 0 hb.1
  omega
/-- No column that leaves a difference. -/
def Lvl (a b : List (List Int)) (g : Nat) : Prop := ∀ c : Nat, c < (a.getD 0 []).length → sumF (dd a b g c) 0 a.length % 4294967296 = 0
def TurnR (a b l1 : List (List Int)) (l2 : List (List (List Int))) (s g : Nat) (o : List (List Int)) (p : List (List (List Int))) (e : Int) : Prop :=
  (e ≠ 0 ∧ o = [] ∧ p = [] ∧ (ChkR a l1 l2 s g e ∨ (ChkR a l1 l2 s g 0 ∧ (ChkR b l1 l2 s g e ∨ (ChkR b l1 l2 s g 0 ∧ e = 11 ∧ ¬ Lvl a b g))))) ∨
  (e = 0 ∧ ChkR a l1 l2 s g 0 ∧ ChkR b l1 l2 s g 0 ∧ Lvl a b g ∧ Td l1 l2 a.length (a.getD 0 []).length (oD a b s g) (pD a b g) o p)
theorem small_mod {l : List Int} (h : Small l) (c : Nat) : l.getD c 0 = (l.getD c 0 + 0) % 4294967296 := by
  have := h c
  omega
theorem turn_ev (a b l1 : List (List Int)) (l2 : List (List (List Int))) (s g : Nat) (hs : s < 18446744073709551616) (hg : g < 18446744073709551616) (h2 : l2.length ≤ 9223372036854775806) (sm1 : ∀ i : Nat, Small (l1.getD i [])) (sm2 : ∀ i j : Nat, Small (pv l2 i j)) :
    ∃ o p e, Ev (fun k => ideal_Turn.f k a b l1 l2 (s : Int) (g : Int)) (o, p, e) ∧ TurnR a b l1 l2 s g o p e := by
  obtain ⟨e1, he1, hR1⟩ := checkP_f a l1 l2 s g hs hg h2
  obtain ⟨e2, he2, hR2⟩ := checkP_f b l1 l2 s g hs hg h2
  unfold ideal_Turn.f
  by_cases h1 : e1 = 0
  · subst h1
    obtain ⟨hA, hW⟩ := chk_zero hR1
    by_cases h2' : e2 = 0
    · subst h2'
      obtain ⟨hB, _⟩ := chk_zero hR2
      have F := len_pos hA
      have hn := F.n1
      have hnn := F.nn1
      obtain ⟨eb, ebn⟩ := chk_same hA hB
      have T0 : Td l1 l2 a.length (a.getD 0 []).length (fun j c => if j < 0 then oD a b s g j c else 0) (fun j k c => if k < 0 then pD a b g j k c else 0) l1 l2 :=
        ⟨F, fun j c _ _ => by rw [if_neg (by omega)]; exact small_mod (sm1 j) c, fun j k c _ _ _ => by rw [if_neg (by omega)]; exact small_mod (sm2 j k) c⟩
      obtain ⟨o', p', r', he, hT, hr, hv⟩ := turnS_ev a b s g hs hg (fun i hi => hA.2.1 i hi) (fun i hi => by have := hB.2.1 i (by omega); omega) a.length 0 l1 l2 (List.replicate (a.getD 0 []).length 0) (Nat.zero_add _) T0 (by simp) (fun c hc => by
        show _ = (0 : Int) % 4294967296
        rw [List.getD_eq_getElem?_getD, List.getElem?_replicate]
        split <;> rfl)
      obtain ⟨z, hz, hzb⟩ := nz_f r' (by omega)
      have hc0 : a.length ≤ 1000 ∧ b.length = a.length ∧ l1.length = a.length ∧ l2.length = a.length ∧ (∀ x ∈ l2, x.length = a.length) ∧ (∀ x ∈ l1, x.length ≤ 1000000) ∧ (∀ x ∈ l2, ∀ y ∈ x, y.length ≤ 1000000) ∧ (rdV a 0).length ≤ 1000000 := by
        refine ⟨by omega, eb, F.o1, F.p1, fun x hx => ?_, fun x hx => ?_, fun x hx y hy => ?_, by show (a.getD 0 []).length ≤ 1000000; omega⟩
        · obtain ⟨i, hi, rfl⟩ := List.getElem_of_mem hx
          have := F.p2 i (by rw [← F.p1]; exact hi)
          rwa [getD_eq hi] at this
        · obtain ⟨i, hi, rfl⟩ := List.getElem_of_mem hx
          have := F.o2 i (by rw [← F.o1]; exact hi)
          rw [getD_eq hi] at this
          omega
        · obtain ⟨i, hi, rfl⟩ := List.getElem_of_mem hx
          obtain ⟨j, hj, rfl⟩ := List.getElem_of_mem hy
          have h3 := F.p2 i (by rw [← F.p1]; exact hi)
          rw [getD_eq hi] at h3
          have h4 := F.p3 i j (by rw [← F.p1]; exact hi) (by omega)
          unfold pv at h4
          rw [getD_eq hi, getD_eq hj] at h4
          split at h4 <;> omega
      by_cases hb : z = true
      · refine ⟨[], [], 11, Ev.bind he1 (Ev.pos rfl (Ev.bind he2 (Ev.pos rfl (Ev.pos hc0 (Ev.bind he (Ev.bind hz (Ev.pos hb (Ev.now _)))))))), Or.inl ⟨by decide, rfl, rfl, Or.inr ⟨hR1, Or.inr ⟨hR2, rfl, fun hL => ?_⟩⟩⟩⟩
        obtain ⟨c, hc, hne⟩ := hzb.1 hb
        exact hne (by rw [hv c (by omega)]; exact hL c (by omega))
      · refine ⟨o', p', 0, Ev.bind he1 (Ev.pos rfl (Ev.bind he2 (Ev.pos rfl (Ev.pos hc0 (Ev.bind he (Ev.bind hz (Ev.neg hb (Ev.now _)))))))), Or.inr ⟨rfl, hR1, hR2, fun c hc => ?_, hT⟩⟩
        by_cases hne : r'.getD c 0 = 0
        · rw [← hv c hc]; exact hne
        · exact absurd (hzb.2 ⟨c, by omega, hne⟩) hb
    · exact ⟨[], [], e2, Ev.bind he1 (Ev.pos rfl (Ev.bind he2 (Ev.neg h2' (Ev.now _)))), Or.inl ⟨h2', rfl, rfl, Or.inr ⟨hR1, Or.inl hR2⟩⟩⟩
  · exact ⟨[], [], e1, Ev.bind he1 (Ev.neg h1 (Ev.now _)), Or.inl ⟨h1, rfl, rfl, Or.inl hR1⟩⟩
end Go.Proofs.YtpicmnkkkgedeaaDoor.Plain
