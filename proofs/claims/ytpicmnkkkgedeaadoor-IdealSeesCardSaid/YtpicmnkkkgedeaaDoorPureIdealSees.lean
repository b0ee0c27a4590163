/- IdealSees, the plain law. -/
import Derived.Test.YtpicmnkkkgedeaaDoorPAllx15

import Derived.Test.YtpicmnkkkgedeaaDoorPlainIdealSee
namespace Go.Proofs.YtpicmnkkkgedeaaDoor.Pure
open Go.RowKit Go.Proofs.YtpicmnkkkgedeaaDoor.PAll Go.Proofs.YtpicmnkkkgedeaaDoor.Opn Go.Proofs.YtpicmnkkkgedeaaDoor.Base Go.Proofs.YtpicmnkkkgedeaaDoor.Plain Go.Proofs.YtpicmnkkkgedeaaDoorW.PrintWords Go.Proofs.YtpicmnkkkgedeaaDoorW.PrintLast Go.Proofs.YtpicmnkkkgedeaaDoorW.PrintMore
set_option linter.unusedVariables false
set_option linter.unusedSimpArgs false
theorem in_i (g i : Nat) (hg : g < 18446744073709551616) (hi : i < 64) : offertorylaw25_in.f (g : Int) (i : Int) = some (g.testBit i) := by
  unfold offertorylaw25_in.f
  rw [wu64 (by omega), if_pos (by omega), shr_eq (by omega) (by omega), Int.toNat_natCast, pow_nat, ← Int.natCast_ediv]
  congr 1
  have hl : g / 2 ^ i < 18446744073709551616 := Nat.lt_of_le_of_lt (Nat.div_le_self _ _) hg
  have e : Go.bits .and .u64 ((g / 2 ^ i : Nat) : Int) 1 = ((g / 2 ^ i &&& 1 : Nat) : Int) := bits_and_u64_nat (g / 2 ^ i) 1 hl (by decide)
  rw [e, Nat.and_one_is_mod, Nat.testBit_eq_decide_div_mod_eq]
  by_cases h : g / 2 ^ i % 2 = 1
  · rw [h, decide_eq_true rfl]; rfl
  · have h0 : g / 2 ^ i % 2 = 0 := by omega
    rw [h0]
    rfl
theorem sbit_i (g i : Nat) (hg : g < 18446744073709551616) (hi : i < 64) : sbit (g : Int) (i : Int) = g.testBit i := by
  unfold sbit
  rw [in_i g i hg hi]
  rfl
theorem sumF_more {f : Nat → Int} : ∀ (m p q : Nat), (∀ j, p + m ≤ j → j < p + m + q → f j = 0) → sumF f p (m + q) = sumF f p m
  | 0, p, q, h => by
    rw [Nat.zero_add, sumF_congr q p (g := fun _ => 0) (fun j h1 h2 => h j (by omega) (by omega)), sumF_zero]
    rfl
  | m + 1, p, q, h => by
    rw [Nat.add_right_comm]
    show f p + sumF f (p + 1) (m + q) = f p + sumF f (p + 1) m
    rw [sumF_more m (p + 1) q (fun j h1 h2 => h j (by omega) (by omega))]
theorem sumF_snoc (f : Nat → Int) : ∀ (m p : Nat), sumF f p (m + 1) = sumF f p m + f (p + m)
  | 0, p => by show f p + 0 = 0 + f (p + 0); rw [Nat.add_zero]; omega
  | m + 1, p => by
    have := sumF_snoc f m (p + 1)
    show f p + sumF f (p + 1) (m + 1) = (f p + sumF f (p + 1) m) + f (p + (m + 1))
    rw [this, show p + 1 + m = p + (m + 1) by omega]
    omega
theorem sSum_eq (l0 l1 : List (List Int)) (l2 : List (List (List Int))) (s i c : Nat) (hs : s < 18446744073709551616) : ∀ k : Nat, k ≤ 64 → sSum l0 l1 l2 (s : Int) (i : Int) (c : Int) k = ((l0.getD i []).getD c 0 + (l1.getD i []).getD c 0 + sumF (tc l2 s i c) 0 k) % 4294967296
  | 0, _ => by
    show ((l0.getD i []).getD c 0 + (l1.getD i []).getD c 0) % 4294967296 = ((l0.getD i []).getD c 0 + (l1.getD i []).getD c 0 + 0) % 4294967296
    rw [Int.add_zero]
  | k + 1, h => by
    have ih := sSum_eq l0 l1 l2 s i c hs k (by omega)
    have e := sumF_snoc (tc l2 s i c) k 0
    rw [Nat.zero_add] at e
    rw [e]
    show sAdd l2 (s : Int) (i : Int) (c : Int) (k : Int) (sSum l0 l1 l2 (s : Int) (i : Int) (c : Int) k) = _
    rw [ih]
    unfold sAdd tc
    rw [sbit_i s k hs (by omega)]
    have r1 : rd (rdV (rdM l2 (i : Int)) (k : Int)) (c : Int) = (pv l2 i k).getD c 0 := rfl
    have r2 : rd (rdV (rdM l2 (k : Int)) (i : Int)) (c : Int) = (pv l2 k i).getD c 0 := rfl
    rw [r1, r2]
    by_cases hb : s.testBit k = true
    · simp only [if_pos hb]
      rcases Nat.lt_trichotomy i k with h1 | h1 | h1
      · rw [if_pos (by omega), if_pos h1]
        omega
      · rw [if_neg (by omega), if_neg (by omega), if_neg (by omega), if_neg (by omega)]
        omega
      · rw [if_neg (by omega), if_pos (by omega), if_neg (by omega), if_pos h1]
        omega
    · simp only [if_neg hb, Int.add_zero]
      split
      · rfl
      · split <;> rfl
theorem nat_of {x : Int} (h : (Lit.int .u64 x).wf = true) : ∃ m : Nat, x = (m : Int) ∧ m < 18446744073709551616 := by
  have := u64_of h
  exact ⟨x.toNat, by omega, by omega⟩
theorem see_bad_ev (l0 l1 : List (List Int)) (l2 : List (List (List Int))) (s g : Nat) (e : Int) (he : Ev (fun k => ideal_check.f k l0 l1 l2 (s : Int) (g : Int)) e) (h : e ≠ 0) : Ev (fun k => ideal_See.f k l0 l1 l2 (s : Int) (g : Int)) ([], [], [], e) := by
  unfold ideal_See.f
  exact Ev.bind he (Ev.neg h (Ev.now _))
theorem sg_of {l0 l1 : List (List Int)} {l2 : List (List (List Int))} (s g : Nat) (hs : s < 18446744073709551616) (hg : g < 18446744073709551616) (hA : ChkA l0 l1 l2) (hW : ChkW l0.length s g) :
    SG l0 l1 l2 (s : Int) (g : Int) (GsV l0 l1 l2 s l0.length (l0.getD 0 []).length) (OsV l1 g l0.length) (LsV l2 s g l0.length) l0.length (rdV l0 0).length := by
  have F := len_pos hA
  have hn := F.n1
  have hnn := F.nn1
  have h64 : l0.length + (64 - l0.length) = 64 := by omega
  have hnn' : (rdV l0 0).length = (l0.getD 0 []).length := rfl
  unfold SG
  rw [hnn']
  refine ⟨⟨by omega, by omega⟩, ⟨rfl, F.o1, F.p1, by simp [GsV], by simp [OsV], by simp [LsV]⟩, fun i hi => ⟨hA.2.1 i hi, F.o2 i hi, F.p2 i hi, ?_, ?_, ?_, ?_, ?_⟩, fun i hi k hk => ⟨fun h => ?_, ?_⟩⟩
  · show (GsV l0 l1 l2 s l0.length (l0.getD 0 []).length).getD i [] = _
    unfold GsV wG
    rw [map_getD _ l0.length i hi, sbit_i s i hs (by omega)]
    by_cases h : s.testBit i = true
    · rw [if_pos h, if_pos h]
      unfold gv
      refine List.map_congr_left fun c _ => ?_
      rw [sSum_eq l0 l1 l2 s i c hs l0.length (by omega)]
      have e : sumF (tc l2 s i c) 0 64 = sumF (tc l2 s i c) 0 l0.length := by
        rw [← h64]
        exact sumF_more l0.length 0 (64 - l0.length) (fun j hj _ => by unfold tc; rw [if_neg (fun h => by have := hW.1 j h; omega)])
      rw [e]
    · rw [if_neg h, if_neg h]
  · show (OsV l1 g l0.length).getD i [] = _
    unfold OsV wO
    rw [map_getD _ l0.length i hi, sbit_i g i hg (by omega)]
    rfl
  · show ((LsV l2 s g l0.length).getD i []).length = _
    unfold LsV
    rw [map_getD _ l0.length i hi]
    simp
  · rw [sbit_i s i hs (by omega), in_i s i hs (by omega)]
  · rw [sbit_i g i hg (by omega), in_i g i hg (by omega)]
  · have := F.p3 i k hi hk
    rw [if_neg (by omega)] at this
    exact this
  · show ((LsV l2 s g l0.length).getD i []).getD k [] = _
    unfold LsV wL wB
    rw [map_getD _ l0.length i hi, map_getD _ l0.length k hk, sbit_i s i hs (by omega), sbit_i s k hs (by omega), sbit_i g i hg (by omega), sbit_i g k hg (by omega)]
    unfold leftV
    have r : rdV (rdM l2 (i : Int)) (k : Int) = pv l2 i k := rfl
    rw [r]
    by_cases h : k ≤ i
    · rw [if_pos h, decide_eq_false (by omega)]
      rfl
    · rw [if_neg h, decide_eq_true (by omega), Bool.true_and, Bool.and_assoc]
theorem IdealSees (l0 : List (List Int)) (l1_0 : List (List Int)) (l1_1 : List (List (List Int))) (a2 : Int) (a3 : Int) (ok0 : (SliceOk 24 (SliceOk 4 (fun n => (Lit.int .u32 n).wf = true))) l0) (w1_0 : (SliceOk 24 (SliceOk 4 (fun n => (Lit.int .u32 n).wf = true))) l1_0) (w1_1 : (SliceOk 24 (SliceOk 24 (SliceOk 4 (fun n => (Lit.int .u32 n).wf = true)))) l1_1) (w2 : (Lit.int .u64 a2).wf = true) (w3 : (Lit.int .u64 a3).wf = true) : ∃ k, offertorylaw25_IdealSees.f k l0 l1_0 l1_1 a2 a3 = some true := by
  obtain ⟨s, rfl, hs⟩ := nat_of w2
  obtain ⟨g, rfl, hg⟩ := nat_of w3
  obtain ⟨e, he, hR⟩ := checkP_f l0 l1_0 l1_1 s g hs hg (by have := w1_1.1; omega)
  obtain ⟨e', he', hR'⟩ := checkL_f l0 l1_0 l1_1 s g hs hg (by have := ok0.1; omega)
  have ee := hR.unique hR'
  subst ee
  refine Ev.rounds ?_
  unfold offertorylaw25_IdealSees.f
  by_cases h0 : e = 0
  · subst h0
    have hAW : ChkA l0 l1_0 l1_1 ∧ ChkW l0.length s g := by
      rcases hR with ⟨a, b, _⟩ | ⟨_, h⟩ | ⟨_, _, h⟩
      · exact ⟨a, b⟩
      · cases h
      · cases h
    exact Ev.bind (see_ev l0 l1_0 l1_1 s g hs hg hAW.1 hAW.2) (Ev.bind he' (Ev.bind0 (a := true) rfl (Ev.pos rfl (Ev.pos rfl (Ev.pos ⟨rfl, sg_of s g hs hg hAW.1 hAW.2⟩ (Ev.now _))))))
  · exact Ev.bind (see_bad_ev l0 l1_0 l1_1 s g e he h0) (Ev.bind he' (Ev.bind0 (a := true) rfl (Ev.pos rfl (Ev.neg h0 (Ev.pos ⟨rfl, rfl, rfl, rfl⟩ (Ev.now _))))))
end Go.Proofs.YtpicmnkkkgedeaaDoor.Pure
