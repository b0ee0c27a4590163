/- IdealTurns, the plain law. -/
import Derived.Test.YtpicmnkkkgedeaaDoorPAllx17
import Derived.Test.YtpicmnkkkgedeaaDoorPAllx19
import Derived.Test.YtpicmnkkkgedeaaDoorPAllx15
import Derived.Test.YtpicmnkkkgedeaaDoorPAllx9
import Derived.Test.YtpicmnkkkgedeaaDoorPAllx14

import Derived.Test.YtpicmnkkkgedeaaDoorPlainIdealEq
import Derived.Test.YtpicmnkkkgedeaaDoorPlainIdealTurn
namespace Go.Proofs.YtpicmnkkkgedeaaDoor.Pure
open Go.RowKit Go.Proofs.YtpicmnkkkgedeaaDoor.PAll Go.Proofs.YtpicmnkkkgedeaaDoor.Opn Go.Proofs.YtpicmnkkkgedeaaDoor.Base Go.Proofs.YtpicmnkkkgedeaaDoor.Plain Go.Proofs.YtpicmnkkkgedeaaDoorW.PrintWords Go.Proofs.YtpicmnkkkgedeaaDoorW.PrintLast Go.Proofs.YtpicmnkkkgedeaaDoorW.PrintMore
set_option linter.unusedVariables false
set_option linter.unusedSimpArgs false
theorem ext_getDG {α : Type} (z : α) {a b : List α} (hl : a.length = b.length) (h : ∀ j : Nat, j < a.length → a.getD j z = b.getD j z) : a = b := by
  refine List.ext_getElem hl (fun i h1 h2 => ?_)
  have := h i h1
  rwa [getD_eq h1, getD_eq h2] at this
theorem fine_ext {o o' : List (List Int)} {p p' : List (List (List Int))} {n nn : Nat} (F : Fine o p n nn) (G : Fine o' p' n nn) (hv : ∀ j c : Nat, j < n → c < nn → (o.getD j []).getD c 0 = (o'.getD j []).getD c 0) (hw : ∀ j k c : Nat, j < k → k < n → c < nn → (pv p j k).getD c 0 = (pv p' j k).getD c 0) : o = o' ∧ p = p' := by
  refine ⟨ext_getDG [] (by rw [F.o1, G.o1]) (fun j hj => ?_), ext_getDG [] (by rw [F.p1, G.p1]) (fun j hj => ?_)⟩
  · rw [F.o1] at hj
    refine ext_getDG 0 (by rw [F.o2 j hj, G.o2 j hj]) (fun c hc => ?_)
    rw [F.o2 j hj] at hc
    exact hv j c hj hc
  · rw [F.p1] at hj
    refine ext_getDG [] (by rw [F.p2 j hj, G.p2 j hj]) (fun k hk => ?_)
    rw [F.p2 j hj] at hk
    refine ext_getDG 0 ((F.p3 j k hj hk).trans (G.p3 j k hj hk).symm) (fun c hc => ?_)
    have hl := F.p3 j k hj hk
    unfold pv at hl
    by_cases e : k ≤ j
    · rw [if_pos e] at hl
      omega
    · rw [if_neg e] at hl
      exact hw j k c (by omega) hk (by omega)
theorem getD_out {α : Type} (l : List α) (z : α) (i : Nat) (h : l.length ≤ i) : l.getD i z = z := by
  rw [List.getD_eq_getElem?_getD, List.getElem?_eq_none h]
  rfl
theorem td_small {l1 : List (List Int)} {l2 : List (List (List Int))} {n nn : Nat} {D : Nat → Nat → Int} {E : Nat → Nat → Nat → Int} {o : List (List Int)} {p : List (List (List Int))} (h : Td l1 l2 n nn D E o p) : (∀ i : Nat, Small (o.getD i [])) ∧ ∀ i j : Nat, Small (pv p i j) := by
  constructor
  · intro i c
    by_cases hi : i < n
    · by_cases hc : c < nn
      · rw [h.ov i c hi hc]
        omega
      · rw [getD_out _ 0 c (by rw [h.f.o2 i hi]; omega)]
        omega
    · rw [getD_out o [] i (by rw [h.f.o1]; omega), getD_out ([] : List Int) 0 c (by simp)]
      omega
  · intro i j c
    by_cases hi : i < n
    · by_cases hj : j < n
      · have hl := h.f.p3 i j hi hj
        by_cases e : j ≤ i
        · rw [if_pos e] at hl
          rw [getD_out _ 0 c (by omega)]
          omega
        · rw [if_neg e] at hl
          by_cases hc : c < nn
          · rw [h.pw i j c (by omega) hj hc]
            omega
          · rw [getD_out _ 0 c (by omega)]
            omega
      · unfold pv
        rw [getD_out (p.getD i []) [] j (by rw [h.f.p2 i hi]; omega), getD_out ([] : List Int) 0 c (by simp)]
        omega
    · unfold pv
      rw [getD_out p [] i (by rw [h.f.p1]; omega), getD_out ([] : List (List Int)) [] j (by simp), getD_out ([] : List Int) 0 c (by simp)]
      omega
theorem td_back {l1 : List (List Int)} {l2 : List (List (List Int))} {n nn : Nat} {D D' : Nat → Nat → Int} {E E' : Nat → Nat → Nat → Int} {o o2 : List (List Int)} {p p2 : List (List (List Int))} (F : Fine l1 l2 n nn) (sm1 : ∀ i : Nat, Small (l1.getD i [])) (sm2 : ∀ i j : Nat, Small (pv l2 i j)) (h : Td l1 l2 n nn D E o p) (k : Td o p n nn D' E' o2 p2)
    (hD : ∀ j c : Nat, D' j c = - D j c) (hE : ∀ i j c : Nat, E' i j c = - E i j c) : o2 = l1 ∧ p2 = l2 :=
  fine_ext k.f F (fun j c hj hc => by
    have := sm1 j c
    rw [k.ov j c hj hc, h.ov j c hj hc, hD j c]
    omega) (fun i j c hij hj hc => by
    have := sm2 i j c
    rw [k.pw i j c hij hj hc, h.pw i j c hij hj hc, hE i j c]
    omega)
theorem td_det {l1 : List (List Int)} {l2 : List (List (List Int))} {n nn : Nat} {D : Nat → Nat → Int} {E : Nat → Nat → Nat → Int} {o o2 : List (List Int)} {p p2 : List (List (List Int))} (h : Td l1 l2 n nn D E o p) (k : Td l1 l2 n nn D E o2 p2) : o = o2 ∧ p = p2 :=
  fine_ext h.f k.f (fun j c hj hc => by rw [k.ov j c hj hc, h.ov j c hj hc]) (fun i j c hij hj hc => by rw [k.pw i j c hij hj hc, h.pw i j c hij hj hc])
theorem td_inj {l1 m1 : List (List Int)} {l2 m2 : List (List (List Int))} {n nn : Nat} {D : Nat → Nat → Int} {E : Nat → Nat → Nat → Int} {o : List (List Int)} {p : List (List (List Int))} (F : Fine l1 l2 n nn) (G : Fine m1 m2 n nn) (sm1 : ∀ i : Nat, Small (l1.getD i [])) (sm2 : ∀ i j : Nat, Small (pv l2 i j)) (tm1 : ∀ i : Nat, Small (m1.getD i [])) (tm2 : ∀ i j : Nat, Small (pv m2 i j))
    (h : Td l1 l2 n nn D E o p) (k : Td m1 m2 n nn D E o p) : l1 = m1 ∧ l2 = m2 :=
  fine_ext F G (fun j c hj hc => by
    have a1 := sm1 j c
    have a2 := tm1 j c
    have a3 := h.ov j c hj hc
    have a4 := k.ov j c hj hc
    omega) (fun i j c hij hj hc => by
    have a1 := sm2 i j c
    have a2 := tm2 i j c
    have a3 := h.pw i j c hij hj hc
    have a4 := k.pw i j c hij hj hc
    omega)
theorem dd_neg (a b : List (List Int)) (g c i : Nat) : dd b a g c i = - dd a b g c i := by
  unfold dd
  split <;> omega
theorem sum_neg (a b : List (List Int)) (g c : Nat) (m p : Nat) : sumF (dd b a g c) p m = - sumF (dd a b g c) p m := by
  have h := sumF_add (dd a b g c) (dd b a g c) m p
  have z : sumF (fun j => dd a b g c j + dd b a g c j) p m = 0 := by
    rw [sumF_congr m p (g := fun _ => 0) (fun j _ _ => by have := dd_neg a b g c j; omega), sumF_zero]
  omega
theorem oD_neg (a b : List (List Int)) (s g i c : Nat) : oD b a s g i c = - oD a b s g i c := by
  unfold oD
  split
  · rfl
  · split <;> omega
theorem pD_neg (a b : List (List Int)) (g i j c : Nat) : pD b a g i j c = - pD a b g i j c := by
  unfold pD
  split
  · split
    · exact sum_neg a b g c j 0
    · rfl
  · rfl
theorem smalls_of {l1 : List (List Int)} (h : SliceOk 24 (SliceOk 4 (fun n => (Lit.int .u32 n).wf = true)) l1) (i : Nat) : Small (l1.getD i []) := by
  by_cases hi : i < l1.length
  · rw [getD_eq hi]
    exact small_of (h.2.2 _ (List.getElem_mem hi))
  · rw [getD_out l1 [] i (by omega)]
    intro c
    rw [getD_out ([] : List Int) 0 c (by simp)]
    omega
theorem smalls2_of {l2 : List (List (List Int))} (h : SliceOk 24 (SliceOk 24 (SliceOk 4 (fun n => (Lit.int .u32 n).wf = true))) l2) (i j : Nat) : Small (pv l2 i j) := by
  unfold pv
  by_cases hi : i < l2.length
  · rw [getD_eq hi]
    exact smalls_of (h.2.2 _ (List.getElem_mem hi)) j
  · rw [getD_out l2 [] i (by omega), getD_out ([] : List (List Int)) [] j (by simp)]
    intro c
    rw [getD_out ([] : List Int) 0 c (by simp)]
    omega
theorem sh_fine {o : List (List Int)} {p : List (List (List Int))} {n nn : Nat} (F : Fine o p n nn) : Sh o ∧ Sh2 p := by
  have hn := F.n1
  have hnn := F.nn1
  refine ⟨⟨by rw [F.o1]; omega, fun i => ?_⟩, ⟨by rw [F.p1]; omega, fun i => ?_⟩⟩
  · by_cases hi : i < n
    · rw [F.o2 i hi]; omega
    · rw [getD_out o [] i (by rw [F.o1]; omega)]; simp
  · by_cases hi : i < n
    · refine ⟨by rw [F.p2 i hi]; omega, fun j => ?_⟩
      by_cases hj : j < n
      · have := F.p3 i j hi hj
        unfold pv at this
        split at this <;> omega
      · rw [getD_out (p.getD i []) [] j (by rw [F.p2 i hi]; omega)]; simp
    · rw [getD_out p [] i (by rw [F.p1]; omega)]
      exact ⟨by simp, fun j => by simp⟩
theorem nat_of2 {x : Int} (h : (Lit.int .u64 x).wf = true) : ∃ m : Nat, x = (m : Int) ∧ m < 18446744073709551616 := by
  have := u64_of h
  exact ⟨x.toNat, by omega, by omega⟩
theorem IdealTurns (l0 l1 : List (List Int)) (l2_0 : List (List Int)) (l2_1 : List (List (List Int))) (l3_0 : List (List Int)) (l3_1 : List (List (List Int))) (a4 a5 : Int) (ok0 : (SliceOk 24 (SliceOk 4 (fun n => (Lit.int .u32 n).wf = true))) l0) (ok1 : (SliceOk 24 (SliceOk 4 (fun n => (Lit.int .u32 n).wf = true))) l1) (w2_0 : (SliceOk 24 (SliceOk 4 (fun n => (Lit.int .u32 n).wf = true))) l2_0) (w2_1 : (SliceOk 24 (SliceOk 24 (SliceOk 4 (fun n => (Lit.int .u32 n).wf = true)))) l2_1) (w3_0 : (SliceOk 24 (SliceOk 4 (fun n => (Lit.int .u32 n).wf = true))) l3_0) (w3_1 : (SliceOk 24 (SliceOk 24 (SliceOk 4 (fun n => (Lit.int .u32 n).wf = true)))) l3_1) (w4 : (Lit.int .u64 a4).wf = true) (w5 : (Lit.int .u64 a5).wf = true) : ∃ k, offertorylaw25_IdealTurns.f k l0 l1 l2_0 l2_1 l3_0 l3_1 a4 a5 = some true := by
  obtain ⟨s, rfl, hs⟩ := nat_of2 w4
  obtain ⟨g, rfl, hg⟩ := nat_of2 w5
  have sm1 := smalls_of w2_0
  have sm2 := smalls2_of w2_1
  have tm1 := smalls_of w3_0
  have tm2 := smalls2_of w3_1
  obtain ⟨o, p, e, he, hR⟩ := turn_ev l0 l1 l2_0 l2_1 s g hs hg (by have := w2_1.1; omega) sm1 sm2
  refine Ev.rounds ?_
  unfold offertorylaw25_IdealTurns.f
  refine Ev.bind he (Ev.bind0 (a := true) rfl (Ev.pos rfl (Ev.succ ?_)))
  simp only [offertorylaw25_IdealTurns.j0]
  rcases hR with ⟨h0, _⟩ | ⟨rfl, hA, hB, hL, hT⟩
  · exact Ev.pos (bne_iff_ne.2 h0) (Ev.bind0 (a := true) rfl (Ev.now _))
  · refine Ev.neg (by decide) ?_
    obtain ⟨a1, a2⟩ := chk_zero hA
    obtain ⟨b1, b2⟩ := chk_zero hB
    obtain ⟨q1, q2⟩ := chk_same a1 b1
    have F := len_pos a1
    have ks := td_small hT
    have hS := sh_fine hT.f
    have hkb : ChkR l1 o p s g 0 := Or.inl ⟨⟨b1.1, b1.2.1, fine_of.2 (by rw [q1, q2]; exact hT.f)⟩, b2, rfl⟩
    have hka : ChkR l0 o p s g 0 := Or.inl ⟨⟨a1.1, a1.2.1, fine_of.2 hT.f⟩, a2, rfl⟩
    have hL2 : Lvl l1 l0 g := fun c hc => by
      have := hL c (by omega)
      rw [sum_neg l0 l1 g c, q1]
      omega
    obtain ⟨o2, p2, e2, he2, hR2⟩ := turn_ev l1 l0 o p s g hs hg (by rw [hT.f.p1]; have := F.n1; omega) ks.1 ks.2
    obtain ⟨o3, p3, e3, he3, hR3⟩ := turn_ev l0 l1 l3_0 l3_1 s g hs hg (by have := w3_1.1; omega) tm1 tm2
    have h2 : e2 = 0 ∧ o2 = l2_0 ∧ p2 = l2_1 := by
      rcases hR2 with ⟨h0, _, _, h | ⟨_, h | ⟨_, _, h⟩⟩⟩ | ⟨h0, _, _, _, hT2⟩
      · exact absurd (h.unique hkb) h0
      · exact absurd (h.unique hka) h0
      · exact absurd hL2 h
      · rw [q1, q2] at hT2
        exact ⟨h0, td_back F sm1 sm2 hT hT2 (fun j c => oD_neg l0 l1 s g j c) (fun i j c => pD_neg l0 l1 g i j c)⟩
    obtain ⟨rfl, rfl, rfl⟩ := h2
    have hS2 := sh_fine F
    refine Ev.bind he2 (Ev.bind he3 (Ev.pos rfl (Ev.bind (alikeP_f o2 p2 o2 p2 hS2.1 hS2.2) (Ev.pos (by simp) (Ev.if_ (fun h3 => ?_) (fun _ => Ev.now _))))))
    have h3' : e3 = 0 := h3
    rcases hR3 with ⟨h0, _⟩ | ⟨_, hA3, _, _, hT3⟩
    · exact absurd h3' h0
    · have G := len_pos (chk_zero hA3).1
      refine Ev.bind (alikeP_f o p o3 p3 hS.1 hS.2) (Ev.bind (alike_f o2 p2 l3_0 l3_1 hS2.1 hS2.2) (Ev.some_ ?_))
      by_cases h : o2 = l3_0 ∧ p2 = l3_1
      · obtain ⟨rfl, rfl⟩ := h
        obtain ⟨r1, r2⟩ := td_det hT hT3
        simp [r1, r2]
      · have h4 : ¬ (o = o3 ∧ p = p3) := fun h5 => by
          obtain ⟨rfl, rfl⟩ := h5
          exact h (td_inj F G sm1 sm2 tm1 tm2 hT hT3)
        have d1 : (decide (o2 = l3_0) && decide (p2 = l3_1)) = false := by
          rw [← Bool.not_eq_true, Bool.and_eq_true, decide_eq_true_eq, decide_eq_true_eq]; exact h
        have d2 : (decide (o = o3) && decide (p = p3)) = false := by
          rw [← Bool.not_eq_true, Bool.and_eq_true, decide_eq_true_eq, decide_eq_true_eq]; exact h4
        show ((decide (o = o3) && decide (p = p3)) == (decide (o2 = l3_0) && decide (p2 = l3_1))) = true
        rw [d1, d2]
        rfl
end Go.Proofs.YtpicmnkkkgedeaaDoor.Pure
