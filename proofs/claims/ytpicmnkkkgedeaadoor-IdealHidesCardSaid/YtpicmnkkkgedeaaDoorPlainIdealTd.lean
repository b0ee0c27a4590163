/- Masks that came of others by adding fixed numbers: lengths, bounds, equality. -/
import Derived.Test.YtpicmnkkkgedeaaDoorPAllx16

import Derived.Test.YtpicmnkkkgedeaaDoorPlainIdealEq
import Derived.Test.YtpicmnkkkgedeaaDoorPlainIdealTurn
namespace Go.Proofs.YtpicmnkkkgedeaaDoor.Plain
open Go.RowKit Go.Proofs.YtpicmnkkkgedeaaDoor.PAll Go.Proofs.YtpicmnkkkgedeaaDoor.Opn Go.Proofs.YtpicmnkkkgedeaaDoor.Base Go.Proofs.YtpicmnkkkgedeaaDoorW.PrintWords Go.Proofs.YtpicmnkkkgedeaaDoorW.PrintLast Go.Proofs.YtpicmnkkkgedeaaDoorW.PrintMore
set_option linter.unusedVariables false
set_option linter.unusedSimpArgs false
theorem ext_getDG {α : Type} (z : α) {a b : List α} (hl : a.length = b.length) (h : ∀ j : Nat, j < a.length → a.getD j z = b.getD j z) : a = b := by
  refine List.ext_getElem hl (fun i h1 h2 => ?_)
  have := h i h1
  rwa [getD_eq h1, getD_eq h2] at this
theorem fine_ext {o o' : List (List Int)} {p p' : List (List (List Int))} {n nn : Nat} (F : Fine o p n nn) (G : Fine o' p' n nn) (hv : ∀ j c : Nat, j < n → c < nn → (o.getD j []).getD c 0 = (o'.getD j []).getD c 0) (hw : ∀ j k c : Nat, j < k → k < n → c < nn → (pv p j k).getD c 0 = (pv p' j k).getD c 0) : o = o' ∧ p = p' := by
  refine ⟨ext_getDG [] (by rw [F.o1, G.o1]) (fun j hj => ?_), ext_getDG [] (by rw [F.p1, G.p1]) (fun j hj => ?_)⟩
  · rw [F.o1] at hj
    refine ext_getDG 0 (by rw [F.o2 j hj, G.o2 j hj]) (fun c hc => ?_)
    rw [F.o2 j hj] at hc
    exact hv j c hj hc
  · rw [F.p1] at hj
    refine ext_getDG [] (by rw [F.p2 j hj, G.p2 j hj]) (fun k hk => ?_)
    rw [F.p2 j hj] at hk
    refine ext_getDG 0 ((F.p3 j k hj hk).trans (G.p3 j k hj hk).symm) (fun c hc => ?_)
    have hl := F.p3 j k hj hk
    unfold pv at hl
    by_cases e : k ≤ j
    · rw [if_pos e] at hl
      omega
    · rw [if_neg e] at hl
      exact hw j k c (by omega) hk (by omega)
theorem getD_out {α : Type} (l : List α) (z : α) (i : Nat) (h : l.length ≤ i) : l.getD i z = z := by
  rw [List.getD_eq_getElem?_getD, List.getElem?_eq_none h]
  rfl
theorem td_small {l1 : List (List Int)} {l2 : List (List (List Int))} {n nn : Nat} {D : Nat → Nat → Int} {E : Nat → Nat → Nat → Int} {o : List (List Int)} {p : List (List (List Int))} (h : Td l1 l2 n nn D E o p) : (∀ i : Nat, Small (o.getD i [])) ∧ ∀ i j : Nat, Small (pv p i j) := by
  constructor
  · intro i c
    by_cases hi : i < n
    · by_cases hc : c < nn
      · rw [h.ov i c hi hc]
        omega
      · rw [getD_out _ 0 c (by rw [h.f.o2 i hi]; omega)]
        omega
    · rw [getD_out o [] i (by rw [h.f.o1]; omega), getD_out ([] : List Int) 0 c (by simp)]
      omega
  · intro i j c
    by_cases hi : i < n
    · by_cases hj : j < n
      · have hl := h.f.p3 i j hi hj
        by_cases e : j ≤ i
        · rw [if_pos e] at hl
          rw [getD_out _ 0 c (by omega)]
          omega
        · rw [if_neg e] at hl
          by_cases hc : c < nn
          · rw [h.pw i j c (by omega) hj hc]
            omega
          · rw [getD_out _ 0 c (by omega)]
            omega
      · unfold pv
        rw [getD_out (p.getD i []) [] j (by rw [h.f.p2 i hi]; omega), getD_out ([] : List Int) 0 c (by simp)]
        omega
    · unfold pv
      rw [getD_out p [] i (by rw [h.f.p1]; omega), getD_out ([] : List (List Int)) [] j (by simp), getD_out ([] : List Int) 0 c (by simp)]
      omega
theorem td_back {l1 : List (List Int)} {l2 : List (List (List Int))} {n nn : Nat} {D D' : Nat → Nat → Int} {E E' : Nat → Nat → Nat → Int} {o o2 : List (List Int)} {p p2 : List (List (List Int))} (F : Fine l1 l2 n nn) (sm1 : ∀ i : Nat, Small (l1.getD i [])) (sm2 : ∀ i j : Nat, Small (pv l2 i j)) (h : Td l1 l2 n nn D E o p) (k : Td o p n nn D' E' o2 p2)
    (hD : ∀ j c : Nat, D' j c = - D j c) (hE : ∀ i j c : Nat, E' i j c = - E i j c) : o2 = l1 ∧ p2 = l2 :=
  fine_ext k.f F (fun j c hj hc => by
    have := sm1 j c
    rw [k.ov j c hj hc, h.ov j c hj hc, hD j c]
    omega) (fun i j c hij hj hc => by
    have := sm2 i j c
    rw [k.pw i j c hij hj hc, h.pw i j c hij hj hc, hE i j c]
    omega)
theorem td_det {l1 : List (List Int)} {l2 : List (List (List Int))} {n nn : Nat} {D : Nat → Nat → Int} {E : Nat → Nat → Nat → Int} {o o2 : List (List Int)} {p p2 : List (List (List Int))} (h : Td l1 l2 n nn D E o p) (k : Td l1 l2 n nn D E o2 p2) : o = o2 ∧ p = p2 :=
  fine_ext h.f k.f (fun j c hj hc => by rw [k.ov j c hj hc, h.ov j c hj hc]) (fun i j c hij hj hc => by rw [k.pw i j c hij hj hc, h.pw i j c hij hj hc])
theorem td_inj {l1 m1 : List (List Int)} {l2 m2 : List (List (List Int))} {n nn : Nat} {D : Nat → Nat → Int} {E : Nat → Nat → Nat → Int} {o : List (List Int)} {p : List (List (List Int))} (F : Fine l1 l2 n nn) (G : Fine m1 m2 n nn) (sm1 : ∀ i : Nat, Small (l1.getD i [])) (sm2 : ∀ i j : Nat, Small (pv l2 i j)) (tm1 : ∀ i : Nat, Small (m1.getD i [])) (tm2 : ∀ i j : Nat, Small (pv m2 i j))
    (h : Td l1 l2 n nn D E o p) (k : Td m1 m2 n nn D E o p) : l1 = m1 ∧ l2 = m2 :=
  fine_ext F G (fun j c hj hc => by
    have a1 := sm1 j c
    have a2 := tm1 j c
    have a3 := h.ov j c hj hc
    have a4 := k.ov j c hj hc
    omega) (fun i j c hij hj hc => by
    have a1 := sm2 i j c
    have a2 := tm2 i j c
    have a3 := h.pw i j c hij hj hc
    have a4 := k.pw i j c hij hj hc
    omega)
theorem dd_neg (a b : List (List Int)) (g c i : Nat) : dd b a g c i = - dd a b g c i := by
  unfold dd
  split <;> omega
theorem sum_neg (a b : List (List Int)) (g c : Nat) (m p : Nat) : sumF (dd b a g c) p m = - sumF (dd a b g c) p m := by
  have h := sumF_add (dd a b g c) (dd b a g c) m p
  have z : sumF (fun j => dd a b g c j + dd b a g c j) p m = 0 := by
    rw [sumF_congr m p (g := fun _ => 0) (fun j _ _ => by have := dd_neg a b g c j; omega), sumF_zero]
  omega
theorem oD_neg (a b : List (List Int)) (s g i c : Nat) : oD b a s g i c = - oD a b s g i c := by
  unfold oD
  split
  · rfl
  · split <;> omega
theorem pD_neg (a b : List (List Int)) (g i j c : Nat) : pD b a g i j c = - pD a b g i j c := by
  unfold pD
  split
  · split
    · exact sum_neg a b g c j 0
    · rfl
  · rfl
theorem smalls_of {l1 : List (List Int)} (h : SliceOk 24 (SliceOk 4 (fun n => (Lit.int .u32 n).wf = true)) l1) (i : Nat) : Small (l1.getD i []) := by
  by_cases hi : i < l1.length
  · rw [getD_eq hi]
    exact small_of (h.2.2 _ (List.getElem_mem hi))
  · rw [getD_out l1 [] i (by omega)]
    intro c
    rw [getD_out ([] : List Int) 0 c (by simp)]
    omega
theorem smalls2_of {l2 : List (List (List Int))} (h : SliceOk 24 (SliceOk 24 (SliceOk 4 (fun n => (Lit.int .u32 n).wf = true))) l2) (i j : Nat) : Small (pv l2 i j) := by
  unfold pv
  by_cases hi : i < l2.length
  · rw [getD_eq hi]
    exact smalls_of (h.2.2 _ (List.getElem_mem hi)) j
  · rw [getD_out l2 [] i (by omega), getD_out ([] : List (List Int)) [] j (by simp)]
    intro c
    rw [getD_out ([] : List Int) 0 c (by simp)]
    omega
theorem sh_fine {o : List (List Int)} {p : List (List (List Int))} {n nn : Nat} (F : Fine o p n nn) : Sh o ∧ Sh2 p := by
  have hn := F.n1
  have hnn := F.nn1
  refine ⟨⟨by rw [F.o1]; omega, fun i => ?_⟩, ⟨by rw [F.p1]; omega, fun i => ?_⟩⟩
  · by_cases hi : i < n
    · rw [F.o2 i hi]; omega
    · rw [getD_out o [] i (by rw [F.o1]; omega)]; simp
  · by_cases hi : i < n
    · refine ⟨by rw [F.p2 i hi]; omega, fun j => ?_⟩
      by_cases hj : j < n
      · have := F.p3 i j hi hj
        unfold pv at this
        split at this <;> omega
      · rw [getD_out (p.getD i []) [] j (by rw [F.p2 i hi]; omega)]; simp
    · rw [getD_out p [] i (by rw [F.p1]; omega)]
      exact ⟨by simp, fun j => by simp⟩
theorem nat_of2 {x : Int} (h : (Lit.int .u64 x).wf = true) : ∃ m : Nat, x = (m : Int) ∧ m < 18446744073709551616 := by
  have := u64_of h
  exact ⟨x.toNat, by omega, by omega⟩
end Go.Proofs.YtpicmnkkkgedeaaDoor.Plain
