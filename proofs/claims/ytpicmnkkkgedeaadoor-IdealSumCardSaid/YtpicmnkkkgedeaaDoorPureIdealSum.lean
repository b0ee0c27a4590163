/- IdealSum, the plain law. -/
import Derived.Test.YtpicmnkkkgedeaaDoorPAllx18
import Derived.Test.YtpicmnkkkgedeaaDoorPAllx15
import Derived.Test.YtpicmnkkkgedeaaDoorPAllx9
import Derived.Test.YtpicmnkkkgedeaaDoorPAllx14

import Derived.Test.YtpicmnkkkgedeaaDoorPlainIdealSee
namespace Go.Proofs.YtpicmnkkkgedeaaDoor.Pure
open Go.RowKit Go.Proofs.YtpicmnkkkgedeaaDoor.PAll Go.Proofs.YtpicmnkkkgedeaaDoor.Opn Go.Proofs.YtpicmnkkkgedeaaDoor.Base Go.Proofs.YtpicmnkkkgedeaaDoor.Plain Go.Proofs.YtpicmnkkkgedeaaDoorW.PrintWords Go.Proofs.YtpicmnkkkgedeaaDoorW.PrintLast Go.Proofs.YtpicmnkkkgedeaaDoorW.PrintMore
set_option linter.unusedVariables false
set_option linter.unusedSimpArgs false
theorem sumF_skew (a : Nat → Nat → Int) (h : ∀ i j, a i j = - a j i) : ∀ (m p : Nat), sumF (fun i => sumF (a i) p m) p m = 0
  | 0, _ => rfl
  | m + 1, p => by
    have ih := sumF_skew a h m (p + 1)
    have e1 := sumF_add (fun i => a i p) (fun i => sumF (a i) (p + 1) m) m (p + 1)
    have e2 := sumF_add (fun j => a p j) (fun j => a j p) m (p + 1)
    have e3 : sumF (fun j => a p j + a j p) (p + 1) m = 0 := by
      rw [sumF_congr m (p + 1) (g := fun _ => 0) (fun j _ _ => by have := h p j; omega), sumF_zero]
    have e4 : a p p = 0 := by have := h p p; omega
    have e5 : sumF (fun i => sumF (a i) p (m + 1)) (p + 1) m = sumF (fun i => a i p + sumF (a i) (p + 1) m) (p + 1) m := rfl
    have e6 : sumF (fun j => a p j) (p + 1) m = sumF (a p) (p + 1) m := rfl
    show (a p p + sumF (a p) (p + 1) m) + sumF (fun i => sumF (a i) p (m + 1)) (p + 1) m = 0
    omega
theorem sumF_more {f : Nat → Int} : ∀ (m p q : Nat), (∀ j, p + m ≤ j → j < p + m + q → f j = 0) → sumF f p (m + q) = sumF f p m
  | 0, p, q, h => by
    rw [Nat.zero_add, sumF_congr q p (g := fun _ => 0) (fun j h1 h2 => h j (by omega) (by omega)), sumF_zero]
    rfl
  | m + 1, p, q, h => by
    rw [Nat.add_right_comm]
    show f p + sumF f (p + 1) (m + q) = f p + sumF f (p + 1) m
    rw [sumF_more m (p + 1) q (fun j h1 h2 => h j (by omega) (by omega))]
theorem in_i (g i : Nat) (hg : g < 18446744073709551616) (hi : i < 64) : offertorylaw25_in.f (g : Int) (i : Int) = some (g.testBit i) := by
  unfold offertorylaw25_in.f
  rw [wu64 (by omega), if_pos (by omega), shr_eq (by omega) (by omega), Int.toNat_natCast, pow_nat, ← Int.natCast_ediv]
  congr 1
  have hl : g / 2 ^ i < 18446744073709551616 := Nat.lt_of_le_of_lt (Nat.div_le_self _ _) hg
  have e : Go.bits .and .u64 ((g / 2 ^ i : Nat) : Int) 1 = ((g / 2 ^ i &&& 1 : Nat) : Int) := bits_and_u64_nat (g / 2 ^ i) 1 hl (by decide)
  rw [e, Nat.and_one_is_mod, Nat.testBit_eq_decide_div_mod_eq]
  by_cases h : g / 2 ^ i % 2 = 1
  · rw [h, decide_eq_true rfl]; rfl
  · have h0 : g / 2 ^ i % 2 = 0 := by omega
    rw [h0]
    rfl
/-- What the law takes for each other donor, in a column. -/
def lc (l2 : List (List (List Int))) (s g i c j : Nat) : Int := - tc l2 s i c j + tc l2 g i c j
theorem left_len {l1 : List (List Int)} {l2 : List (List (List Int))} {n nn s g : Nat} (F : Fine l1 l2 n nn) (hnn : 0 < nn) (i j : Nat) (hi : i < n) (hj : j < n) (hij : i < j) : (((LsV l2 s g n).getD i []).getD j []).length = if (s.testBit i && s.testBit j && !(g.testBit i && g.testBit j)) = true then nn else 0 := by
  unfold LsV
  rw [map_getD _ n i hi, map_getD _ n j hj]
  unfold leftV
  rw [if_neg (by omega)]
  by_cases h : (s.testBit i && s.testBit j && !(g.testBit i && g.testBit j)) = true
  · rw [if_pos h, if_pos h, F.p3 i j hi hj, if_neg (by omega)]
  · rw [if_neg h, if_neg h]
    rfl
theorem left_get {l2 : List (List (List Int))} {n s g : Nat} (i j : Nat) (hi : i < n) (hj : j < n) (hij : i < j) (h : (s.testBit i && s.testBit j && !(g.testBit i && g.testBit j)) = true) : ((LsV l2 s g n).getD i []).getD j [] = pv l2 i j := by
  unfold LsV
  rw [map_getD _ n i hi, map_getD _ n j hj]
  unfold leftV
  rw [if_neg (by omega), if_pos h]
theorem ls_len {l2 : List (List (List Int))} {n s g : Nat} : (LsV l2 s g n).length = n := by simp [LsV]
theorem ls_len2 {l2 : List (List (List Int))} {n s g i : Nat} (hi : i < n) : ((LsV l2 s g n).getD i []).length = n := by
  unfold LsV
  rw [map_getD _ n i hi]
  simp
theorem lc_val (l2 : List (List (List Int))) (s g i c j : Nat) (hgs : ∀ i : Nat, g.testBit i = true → s.testBit i = true) (hi : g.testBit i = true) :
    lc l2 s g i c j = if (s.testBit i && s.testBit j && !(g.testBit i && g.testBit j)) = true then (if i < j then - (pv l2 i j).getD c 0 else if j < i then (pv l2 j i).getD c 0 else 0) else 0 := by
  unfold lc tc
  rw [hgs i hi, hi]
  cases hs : s.testBit j
  · have hg : g.testBit j = false := by
      cases hg : g.testBit j
      · rfl
      · have := hgs j hg; rw [hs] at this; cases this
    rw [hg]
    simp
  · cases hg : g.testBit j
    · simp only [Bool.and_self, Bool.and_false, Bool.not_false, if_true, Bool.false_eq_true, if_false]
      split
      · omega
      · split <;> omega
    · simp only [Bool.and_self, Bool.not_true, Bool.and_false, if_true, Bool.false_eq_true, if_false]
      omega
theorem sum_l2 {l0 l1 : List (List Int)} {l2 : List (List (List Int))} {n nn : Nat} (F : Fine l1 l2 n nn) (h0 : l0.length = n) (s g i c : Nat) (hi : i < n) (hc : c < nn) (hgs : ∀ i : Nat, g.testBit i = true → s.testBit i = true) (hgi : g.testBit i = true) (G O : List (List Int)) (W : Int) (r : Bool) :
    ∀ (d j : Nat) (X : Int), j + d = n → 0 ≤ X → X < 4294967296 → Ev (fun k => offertorylaw25_IdealSum.l1 k l0 (g : Int) (c : Int) ((X + sumF (lc l2 s g i c) j d) % 4294967296) W ((i + 1 : Nat) : Int) G O (LsV l2 s g n)) r → Ev (fun k => offertorylaw25_IdealSum.l2 k l0 (g : Int) (c : Int) X W (i : Int) (j : Int) G O (LsV l2 s g n)) r := by
  have hn := F.n1
  intro d
  induction d with
  | zero =>
    intro j X hj hX hX2 he
    refine Ev.succ ?_
    simp only [offertorylaw25_IdealSum.l2]
    rw [w64 (x := (i : Int) + 1) (by omega)]
    refine Ev.neg (by omega) ?_
    have e : (X + sumF (lc l2 s g i c) j 0) % 4294967296 = X := by show (X + 0) % 4294967296 = X; omega
    rw [e] at he
    exact he
  | succ d ih =>
    intro j X hj hX hX2 he
    have hjn : j < n := by omega
    have step : ∀ (X' : Int), X' = (X + lc l2 s g i c j) % 4294967296 → Ev (fun k => offertorylaw25_IdealSum.l2 k l0 (g : Int) (c : Int) X' W (i : Int) ((j + 1 : Nat) : Int) G O (LsV l2 s g n)) r := by
      intro X' hX'
      refine ih (j + 1) X' (by omega) (by omega) (by omega) ?_
      have e : (X' + sumF (lc l2 s g i c) (j + 1) d) % 4294967296 = (X + sumF (lc l2 s g i c) j (d + 1)) % 4294967296 := by
        show _ = (X + (lc l2 s g i c j + sumF (lc l2 s g i c) (j + 1) d)) % 4294967296
        rw [hX']
        omega
      rw [e]
      exact he
    have hlen := ls_len (l2 := l2) (n := n) (s := s) (g := g)
    have hli := ls_len2 (l2 := l2) (n := n) (s := s) (g := g) hi
    have hlj := ls_len2 (l2 := l2) (n := n) (s := s) (g := g) hjn
    have hv := lc_val l2 s g i c j hgs hgi
    refine Ev.succ ?_
    simp only [offertorylaw25_IdealSum.l2]
    rcases Nat.lt_trichotomy i j with h | h | h
    · have hL := left_len (s := s) (g := g) F (by omega) i j hi hjn h
      refine Ev.pos (by omega) (Ev.pos (by omega) (Ev.pos (by omega) (Ev.pos (by omega) (Ev.pos (by omega) (Ev.pos (by show (j : Int) < (((LsV l2 s g n).getD i []).length : Int); omega) (Ev.succ ?_))))))
      simp only [offertorylaw25_IdealSum.j4]
      rw [w64 (x := (j : Int) + 1) (by omega)]
      by_cases hc2 : (s.testBit i && s.testBit j && !(g.testBit i && g.testBit j)) = true
      · rw [if_pos hc2] at hL hv
        rw [if_pos h] at hv
        have hg := left_get (l2 := l2) (s := s) (g := g) i j hi hjn h hc2
        refine Ev.pos (by refine decide_eq_true ?_; show ((((LsV l2 s g n).getD i []).getD j []).length : Int) > 0; omega) (Ev.pos (by omega) (Ev.pos (by omega) (Ev.pos (by omega) (Ev.pos (by show (j : Int) < (((LsV l2 s g n).getD i []).length : Int); omega) (Ev.pos (by omega) (Ev.pos (by show (c : Int) < ((((LsV l2 s g n).getD i []).getD j []).length : Int); omega) (Ev.neg (by omega) (step _ ?_))))))))
        show (X - (((LsV l2 s g n).getD i []).getD j []).getD c 0) % 4294967296 = _
        rw [hg, hv]
        omega
      · rw [if_neg hc2] at hL hv
        refine Ev.neg (by rw [decide_eq_true_eq]; show ¬ ((((LsV l2 s g n).getD i []).getD j []).length : Int) > 0; omega) (Ev.neg (by omega) (step _ ?_))
        rw [hv]
        omega
    · subst h
      have hz : lc l2 s g i c i = 0 := by
        rw [hv]
        split
        · rw [if_neg (by omega), if_neg (by omega)]
        · rfl
      refine Ev.pos (by omega) (Ev.neg (by omega) (Ev.succ ?_))
      simp only [offertorylaw25_IdealSum.j4]
      rw [w64 (x := (i : Int) + 1) (by omega)]
      refine Ev.neg (by decide) (Ev.neg (by omega) (step _ ?_))
      rw [hz]
      omega
    · have hL := left_len (s := s) (g := g) F (by omega) j i hjn hi h
      have hsw : (s.testBit j && s.testBit i && !(g.testBit j && g.testBit i)) = (s.testBit i && s.testBit j && !(g.testBit i && g.testBit j)) := by
        rw [Bool.and_comm (s.testBit j), Bool.and_comm (g.testBit j)]
      refine Ev.pos (by omega) (Ev.neg (by omega) (Ev.succ ?_))
      simp only [offertorylaw25_IdealSum.j4]
      rw [w64 (x := (j : Int) + 1) (by omega)]
      by_cases hc2 : (s.testBit i && s.testBit j && !(g.testBit i && g.testBit j)) = true
      · rw [hsw, if_pos hc2] at hL
        rw [if_pos hc2, if_neg (by omega), if_pos h] at hv
        have hg := left_get (l2 := l2) (s := s) (g := g) j i hjn hi h (by rw [hsw]; exact hc2)
        refine Ev.neg (by decide) (Ev.pos (by omega) (Ev.pos (by omega) (Ev.pos (by omega) (Ev.pos (by omega) (Ev.pos (by show (i : Int) < (((LsV l2 s g n).getD j []).length : Int); omega) (Ev.pos (by show ((((LsV l2 s g n).getD j []).getD i []).length : Int) > 0; omega) (Ev.pos (by omega) (Ev.pos (by show (c : Int) < ((((LsV l2 s g n).getD j []).getD i []).length : Int); omega) (step _ ?_)))))))))
        show (X + (((LsV l2 s g n).getD j []).getD i []).getD c 0) % 4294967296 = _
        rw [hg, hv]
      · rw [hsw, if_neg hc2] at hL
        rw [if_neg hc2] at hv
        refine Ev.neg (by decide) (Ev.pos (by omega) (Ev.pos (by omega) (Ev.pos (by omega) (Ev.pos (by omega) (Ev.pos (by show (i : Int) < (((LsV l2 s g n).getD j []).length : Int); omega) (Ev.neg (by show ¬ ((((LsV l2 s g n).getD j []).getD i []).length : Int) > 0; omega) (step _ ?_)))))))
        rw [hv]
        omega
theorem sumF_snoc (f : Nat → Int) : ∀ (m p : Nat), sumF f p (m + 1) = sumF f p m + f (p + m)
  | 0, p => by show f p + 0 = 0 + f (p + 0); rw [Nat.add_zero]; omega
  | m + 1, p => by
    have := sumF_snoc f m (p + 1)
    show f p + sumF f (p + 1) (m + 1) = (f p + sumF f (p + 1) m) + f (p + (m + 1))
    rw [this, show p + 1 + m = p + (m + 1) by omega]
    omega
/-- What the law has of one donor, and what it wants. -/
def gs (l2 : List (List (List Int))) (g c i : Nat) : Int := if g.testBit i = true then sumF (tc l2 g i c) 0 64 else 0
def wn (l0 : List (List Int)) (g c i : Nat) : Int := if g.testBit i = true then (l0.getD i []).getD c 0 else 0
theorem sum_l1 {l0 l1 : List (List Int)} {l2 : List (List (List Int))} {n nn : Nat} (F : Fine l1 l2 n nn) (h0 : l0.length = n) (h1 : ∀ i : Nat, i < n → (l0.getD i []).length = nn) (s g c : Nat) (hg64 : g < 18446744073709551616) (hc : c < nn) (hs : ∀ i : Nat, s.testBit i = true → i < n) (hgs : ∀ i : Nat, g.testBit i = true → s.testBit i = true) (r : Bool)
    (hend : ∀ (X W : Int), X = (sumF (wn l0 g c) 0 n + sumF (gs l2 g c) 0 n) % 4294967296 → W = sumF (wn l0 g c) 0 n % 4294967296 → Ev (fun k => offertorylaw25_IdealSum.l1 k l0 (g : Int) (c : Int) X W (n : Int) (GsV l0 l1 l2 s n nn) (OsV l1 g n) (LsV l2 s g n)) r) :
    ∀ (d i : Nat) (X W : Int), i + d = n → X = (sumF (wn l0 g c) 0 i + sumF (gs l2 g c) 0 i) % 4294967296 → W = sumF (wn l0 g c) 0 i % 4294967296 → Ev (fun k => offertorylaw25_IdealSum.l1 k l0 (g : Int) (c : Int) X W (i : Int) (GsV l0 l1 l2 s n nn) (OsV l1 g n) (LsV l2 s g n)) r := by
  have hn := F.n1
  intro d
  induction d with
  | zero =>
    intro i X W hi hX hW
    obtain rfl : i = n := by omega
    exact hend X W hX hW
  | succ d ih =>
    intro i X W hi hX hW
    have hin : i < n := by omega
    have e1 := sumF_snoc (wn l0 g c) i 0
    have e2 := sumF_snoc (gs l2 g c) i 0
    rw [Nat.zero_add] at e1 e2
    by_cases hb : g.testBit i = true
    · have hgv : (GsV l0 l1 l2 s n nn).getD i [] = gv l0 l1 l2 s nn i := by
        unfold GsV
        rw [map_getD _ n i hin, if_pos (hgs i hb)]
      have hov : (OsV l1 g n).getD i [] = l1.getD i [] := by
        unfold OsV
        rw [map_getD _ n i hin, if_pos hb]
      have hgl := gv_len l0 l1 l2 s nn i
      have hol := F.o2 i hin
      have hxl := h1 i hin
      have hG : (GsV l0 l1 l2 s n nn).length = n := by simp [GsV]
      have hO : (OsV l1 g n).length = n := by simp [OsV]
      have hval : ((rd (rd_L1 (GsV l0 l1 l2 s n nn) (i : Int)) (c : Int)) - (rd (rd_L1 (OsV l1 g n) (i : Int)) (c : Int))) % 4294967296 = ((l0.getD i []).getD c 0 + sumF (tc l2 s i c) 0 64) % 4294967296 := by
        show (((GsV l0 l1 l2 s n nn).getD i []).getD c 0 - ((OsV l1 g n).getD i []).getD c 0) % 4294967296 = _
        rw [hgv, hov, gv_get _ _ _ _ _ _ _ hc]
        omega
      have hlc : sumF (lc l2 s g i c) 0 n = - sumF (tc l2 s i c) 0 64 + sumF (tc l2 g i c) 0 64 := by
        have m1 : sumF (tc l2 s i c) 0 64 = sumF (tc l2 s i c) 0 n := by
          have h64 : n + (64 - n) = 64 := by omega
          rw [← h64]
          exact sumF_more n 0 (64 - n) (fun j hj _ => by unfold tc; rw [if_neg (fun h => by have := hs j h; omega)])
        have m2 : sumF (tc l2 g i c) 0 64 = sumF (tc l2 g i c) 0 n := by
          have h64 : n + (64 - n) = 64 := by omega
          rw [← h64]
          exact sumF_more n 0 (64 - n) (fun j hj _ => by unfold tc; rw [if_neg (fun h => by have := hs j (hgs j h); omega)])
        have a1 := sumF_add (lc l2 s g i c) (tc l2 s i c) n 0
        have a2 : sumF (fun j => lc l2 s g i c j + tc l2 s i c j) 0 n = sumF (tc l2 g i c) 0 n := sumF_congr n 0 (fun j _ _ => by unfold lc; omega)
        omega
      have f1 : wn l0 g c i = (l0.getD i []).getD c 0 := by unfold wn; rw [if_pos hb]
      have f2 : gs l2 g c i = sumF (tc l2 g i c) 0 64 := by unfold gs; rw [if_pos hb]
      refine Ev.succ ?_
      simp only [offertorylaw25_IdealSum.l1]
      refine Ev.pos (by omega) (Ev.bind0 (in_i g i hg64 (by omega)) (Ev.pos hb (Ev.pos (by omega) (Ev.pos (by omega) (Ev.pos (by show (c : Int) < ((l0.getD i []).length : Int); omega) (Ev.pos (by omega) (Ev.pos (by show (c : Int) < (((GsV l0 l1 l2 s n nn).getD i []).length : Int); rw [hgv]; omega) (Ev.pos (by omega) (Ev.pos (by show (c : Int) < (((OsV l1 g n).getD i []).length : Int); rw [hov]; omega) ?_)))))))))
      rw [hval]
      refine sum_l2 F h0 s g i c hin hc hgs hb (GsV l0 l1 l2 s n nn) (OsV l1 g n) _ r n 0 _ (by omega) (by omega) (by omega) ?_
      refine ih (i + 1) _ _ (by omega) ?_ ?_
      · rw [hlc, e1, e2, f1, f2, hX]
        omega
      · show (W + (l0.getD i []).getD c 0) % 4294967296 = _
        rw [e1, f1, hW]
        omega
    · have f1 : wn l0 g c i = 0 := by unfold wn; rw [if_neg hb]
      have f2 : gs l2 g c i = 0 := by unfold gs; rw [if_neg hb]
      refine Ev.succ ?_
      simp only [offertorylaw25_IdealSum.l1]
      rw [w64 (x := (i : Int) + 1) (by omega)]
      refine Ev.pos (by omega) (Ev.bind0 (in_i g i hg64 (by omega)) (Ev.neg hb ?_))
      refine ih (i + 1) X W (by omega) ?_ ?_
      · rw [e1, e2, f1, f2, Int.add_zero, Int.add_zero]
        exact hX
      · rw [e1, f1, Int.add_zero]
        exact hW
theorem gs_zero {l1 : List (List Int)} {l2 : List (List (List Int))} {n nn : Nat} (F : Fine l1 l2 n nn) (g c : Nat) (hg : ∀ i : Nat, g.testBit i = true → i < n) : sumF (gs l2 g c) 0 n = 0 := by
  have hn := F.n1
  have e : sumF (gs l2 g c) 0 n = sumF (fun i => sumF (fun j => if g.testBit i = true then tc l2 g i c j else 0) 0 n) 0 n := by
    refine sumF_congr n 0 (fun i _ _ => ?_)
    unfold gs
    by_cases hb : g.testBit i = true
    · simp only [if_pos hb]
      have h64 : n + (64 - n) = 64 := by omega
      rw [← h64]
      exact sumF_more n 0 (64 - n) (fun j hj _ => by unfold tc; rw [if_neg (fun h => by have := hg j h; omega)])
    · simp only [if_neg hb]
      exact (sumF_zero n 0).symm
  rw [e]
  refine sumF_skew (fun i j => if g.testBit i = true then tc l2 g i c j else 0) (fun i j => ?_) n 0
  unfold tc
  by_cases h1 : g.testBit i = true
  · by_cases h2 : g.testBit j = true
    · simp only [if_pos h1, if_pos h2]
      rcases Nat.lt_trichotomy i j with h | h | h
      · rw [if_pos h, if_neg (by omega), if_pos h]; omega
      · rw [if_neg (by omega), if_neg (by omega), if_neg (by omega), if_neg (by omega)]; omega
      · rw [if_neg (by omega), if_pos h, if_pos h]
    · simp only [if_pos h1, if_neg h2]
      omega
  · simp only [if_neg h1]
    by_cases h2 : g.testBit j = true
    · simp only [if_pos h2, if_neg h1]
      omega
    · simp only [if_neg h2]
      omega
theorem sum_l0 {l0 l1 : List (List Int)} {l2 : List (List (List Int))} {n nn : Nat} (F : Fine l1 l2 n nn) (h0 : l0.length = n) (h1 : ∀ i : Nat, i < n → (l0.getD i []).length = nn) (s g : Nat) (hg64 : g < 18446744073709551616) (hs : ∀ i : Nat, s.testBit i = true → i < n) (hgs : ∀ i : Nat, g.testBit i = true → s.testBit i = true) :
    ∀ (d c : Nat), c + d = nn → Ev (fun k => offertorylaw25_IdealSum.l0 k l0 (g : Int) (c : Int) (GsV l0 l1 l2 s n nn) (OsV l1 g n) (LsV l2 s g n)) true := by
  have hn := F.n1
  have hnn := F.nn1
  have hx0 := h1 0 (by omega)
  intro d
  induction d with
  | zero =>
    intro c hc
    refine Ev.succ ?_
    simp only [offertorylaw25_IdealSum.l0]
    exact Ev.pos (by omega) (Ev.neg (by show ¬ (c : Int) < ((l0.getD 0 []).length : Int); omega) (Ev.now _))
  | succ d ih =>
    intro c hc
    refine Ev.succ ?_
    simp only [offertorylaw25_IdealSum.l0]
    refine Ev.pos (by omega) (Ev.pos (by show (c : Int) < ((l0.getD 0 []).length : Int); omega) ?_)
    refine sum_l1 F h0 h1 s g c hg64 (by omega) hs hgs true (fun X W hX hW => ?_) n 0 0 0 (by omega) rfl rfl
    rw [gs_zero F g c (fun i hi => hs i (hgs i hi)), Int.add_zero] at hX
    refine Ev.succ ?_
    simp only [offertorylaw25_IdealSum.l1]
    rw [w64 (x := (c : Int) + 1) (by omega)]
    exact Ev.neg (by omega) (Ev.pos (by rw [hX, hW]) (ih (c + 1) (by omega)))
theorem nat_of {x : Int} (h : (Lit.int .u64 x).wf = true) : ∃ m : Nat, x = (m : Int) ∧ m < 18446744073709551616 := by
  have := u64_of h
  exact ⟨x.toNat, by omega, by omega⟩
theorem see_bad_ev (l0 l1 : List (List Int)) (l2 : List (List (List Int))) (s g : Nat) (e : Int) (he : Ev (fun k => ideal_check.f k l0 l1 l2 (s : Int) (g : Int)) e) (h : e ≠ 0) : Ev (fun k => ideal_See.f k l0 l1 l2 (s : Int) (g : Int)) ([], [], [], e) := by
  unfold ideal_See.f
  exact Ev.bind he (Ev.neg h (Ev.now _))
theorem IdealSum (l0 : List (List Int)) (l1_0 : List (List Int)) (l1_1 : List (List (List Int))) (a2 : Int) (a3 : Int) (ok0 : (SliceOk 24 (SliceOk 4 (fun n => (Lit.int .u32 n).wf = true))) l0) (w1_0 : (SliceOk 24 (SliceOk 4 (fun n => (Lit.int .u32 n).wf = true))) l1_0) (w1_1 : (SliceOk 24 (SliceOk 24 (SliceOk 4 (fun n => (Lit.int .u32 n).wf = true)))) l1_1) (w2 : (Lit.int .u64 a2).wf = true) (w3 : (Lit.int .u64 a3).wf = true) : ∃ k, offertorylaw25_IdealSum.f k l0 l1_0 l1_1 a2 a3 = some true := by
  obtain ⟨s, rfl, hs⟩ := nat_of w2
  obtain ⟨g, rfl, hg⟩ := nat_of w3
  obtain ⟨e, he, hR⟩ := checkP_f l0 l1_0 l1_1 s g hs hg (by have := w1_1.1; omega)
  refine Ev.rounds ?_
  unfold offertorylaw25_IdealSum.f
  by_cases h0 : e = 0
  · subst h0
    have hAW : ChkA l0 l1_0 l1_1 ∧ ChkW l0.length s g := by
      rcases hR with ⟨a, b, _⟩ | ⟨_, h⟩ | ⟨_, _, h⟩
      · exact ⟨a, b⟩
      · cases h
      · cases h
    have F := len_pos hAW.1
    refine Ev.bind (see_ev l0 l1_0 l1_1 s g hs hg hAW.1 hAW.2) (Ev.bind0 (a := true) rfl (Ev.pos rfl (Ev.succ ?_)))
    simp only [offertorylaw25_IdealSum.j0]
    exact Ev.neg (by decide) (sum_l0 F rfl hAW.1.2.1 s g hg hAW.2.1 hAW.2.2 _ 0 (Nat.zero_add _))
  · refine Ev.bind (see_bad_ev l0 l1_0 l1_1 s g e he h0) (Ev.bind0 (a := true) rfl (Ev.pos rfl (Ev.succ ?_)))
    simp only [offertorylaw25_IdealSum.j0]
    exact Ev.pos (bne_iff_ne.2 h0) (Ev.bind0 (a := true) rfl (Ev.now _))
end Go.Proofs.YtpicmnkkkgedeaaDoor.Pure
