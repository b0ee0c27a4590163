/- IdealHides, the plain law. -/
import Derived.Test.YtpicmnkkkgedeaaDoorPAllx16

import Derived.Test.YtpicmnkkkgedeaaDoorPlainIdealTd
namespace Go.Proofs.YtpicmnkkkgedeaaDoor.Pure
open Go.RowKit Go.Proofs.YtpicmnkkkgedeaaDoor.PAll Go.Proofs.YtpicmnkkkgedeaaDoor.Opn Go.Proofs.YtpicmnkkkgedeaaDoor.Base Go.Proofs.YtpicmnkkkgedeaaDoor.Plain Go.Proofs.YtpicmnkkkgedeaaDoorW.PrintWords Go.Proofs.YtpicmnkkkgedeaaDoorW.PrintLast Go.Proofs.YtpicmnkkkgedeaaDoorW.PrintMore
set_option linter.unusedVariables false
set_option linter.unusedSimpArgs false
theorem in_i (g i : Nat) (hg : g < 18446744073709551616) (hi : i < 64) : offertorylaw25_in.f (g : Int) (i : Int) = some (g.testBit i) := by
  unfold offertorylaw25_in.f
  rw [wu64 (by omega), if_pos (by omega), shr_eq (by omega) (by omega), Int.toNat_natCast, pow_nat, ← Int.natCast_ediv]
  congr 1
  have hl : g / 2 ^ i < 18446744073709551616 := Nat.lt_of_le_of_lt (Nat.div_le_self _ _) hg
  have e : Go.bits .and .u64 ((g / 2 ^ i : Nat) : Int) 1 = ((g / 2 ^ i &&& 1 : Nat) : Int) := bits_and_u64_nat (g / 2 ^ i) 1 hl (by decide)
  rw [e, Nat.and_one_is_mod, Nat.testBit_eq_decide_div_mod_eq]
  by_cases h : g / 2 ^ i % 2 = 1
  · rw [h, decide_eq_true rfl]; rfl
  · have h0 : g / 2 ^ i % 2 = 0 := by omega
    rw [h0]
    rfl
theorem sumF_more {f : Nat → Int} : ∀ (m p q : Nat), (∀ j, p + m ≤ j → j < p + m + q → f j = 0) → sumF f p (m + q) = sumF f p m
  | 0, p, q, h => by
    rw [Nat.zero_add, sumF_congr q p (g := fun _ => 0) (fun j h1 h2 => h j (by omega) (by omega)), sumF_zero]
    rfl
  | m + 1, p, q, h => by
    rw [Nat.add_right_comm]
    show f p + sumF f (p + 1) (m + q) = f p + sumF f (p + 1) m
    rw [sumF_more m (p + 1) q (fun j h1 h2 => h j (by omega) (by omega))]
theorem sumF_mod {f g : Nat → Int} : ∀ (m p : Nat), (∀ j, p ≤ j → j < p + m → f j % 4294967296 = g j % 4294967296) → sumF f p m % 4294967296 = sumF g p m % 4294967296
  | 0, _, _ => rfl
  | m + 1, p, h => by
    have h1 := h p (Nat.le_refl _) (by omega)
    have h2 := sumF_mod m (p + 1) (fun j a b => h j (by omega) (by omega))
    show (f p + sumF f (p + 1) m) % 4294967296 = (g p + sumF g (p + 1) m) % 4294967296
    omega
theorem lastg_in (g i : Nat) : ∀ j : Nat, lastg g j = (i : Int) → g.testBit i = true
  | 0, h => by unfold lastg at h; omega
  | j + 1, h => by
    unfold lastg at h
    by_cases hb : g.testBit j = true
    · rw [if_pos hb] at h
      obtain rfl : j = i := by omega
      exact hb
    · rw [if_neg hb] at h
      exact lastg_in g i j h
theorem sum_step (f : Nat → Int) (m : Nat) : sumF f 0 (m + 1) = sumF f 0 m + f m := by
  have := sumF_snoc2 f m 0
  rwa [Nat.zero_add] at this
theorem run_none (a b : List (List Int)) (g c : Nat) : ∀ i : Nat, lastg g i = -1 → sumF (dd a b g c) 0 i = 0
  | 0, _ => rfl
  | i + 1, h => by
    unfold lastg at h
    by_cases hb : g.testBit i = true
    · rw [if_pos hb] at h
      omega
    · rw [if_neg hb] at h
      rw [sum_step, run_none a b g c i h]
      unfold dd
      rw [if_neg hb]
      rfl
theorem run_last (a b : List (List Int)) (g c i : Nat) : ∀ m : Nat, lastg g m = (i : Int) → sumF (dd a b g c) 0 m = sumF (dd a b g c) 0 (i + 1)
  | 0, h => by unfold lastg at h; omega
  | m + 1, h => by
    unfold lastg at h
    by_cases hb : g.testBit m = true
    · rw [if_pos hb] at h
      obtain rfl : m = i := by omega
      rfl
    · rw [if_neg hb] at h
      rw [sum_step, run_last a b g c i m h]
      have : dd a b g c m = 0 := by unfold dd; rw [if_neg hb]
      omega
/-- What is added to a donor's gift by the turned masks of two. -/
def te (a b : List (List Int)) (s g i c j : Nat) : Int := if s.testBit j = true then (if i < j then pD a b g i j c else if j < i then - pD a b g j i c else 0) else 0
theorem te_lo (a b : List (List Int)) (s g i c : Nat) (hgs : ∀ i : Nat, g.testBit i = true → s.testBit i = true) (hi : g.testBit i = true) : ∀ m : Nat, m ≤ i → sumF (te a b s g i c) 0 m = if 0 ≤ lastg g i ∧ lastg g i < (m : Int) then - sumF (dd a b g c) 0 i else 0
  | 0, _ => by
    rw [if_neg (by omega)]
    rfl
  | m + 1, h => by
    rw [sum_step, te_lo a b s g i c hgs hi m (by omega)]
    by_cases e : lastg g i = (m : Int)
    · have ht : te a b s g i c m = - sumF (dd a b g c) 0 i := by
        unfold te pD
        rw [if_pos (hgs m (lastg_in g m i e)), if_neg (by omega), if_pos (by omega), if_pos hi, if_pos e]
      rw [ht, if_neg (by omega), if_pos (by omega), Int.zero_add]
    · have ht : te a b s g i c m = 0 := by
        unfold te pD
        rw [if_neg (show ¬ i < m by omega), if_pos (show m < i by omega), if_pos hi, if_neg e]
        split <;> rfl
      rw [ht, Int.add_zero]
      by_cases h2 : 0 ≤ lastg g i ∧ lastg g i < (m : Int)
      · rw [if_pos h2, if_pos (by omega)]
      · rw [if_neg h2, if_neg (by omega)]
theorem te_mid (a b : List (List Int)) (s g i c : Nat) (hgs : ∀ i : Nat, g.testBit i = true → s.testBit i = true) (hi : g.testBit i = true) : sumF (te a b s g i c) 0 (i + 1) = - sumF (dd a b g c) 0 i := by
  have ht : te a b s g i c i = 0 := by
    unfold te
    rw [if_neg (show ¬ i < i by omega), if_neg (show ¬ i < i by omega)]
    split <;> rfl
  have hl := lastg_lt g i
  rw [sum_step, te_lo a b s g i c hgs hi i (Nat.le_refl _), ht, Int.add_zero]
  by_cases h : 0 ≤ lastg g i
  · rw [if_pos ⟨h, hl.2⟩]
  · rw [if_neg (fun h2 => h h2.1), run_none a b g c i (by omega)]
    rfl
theorem te_hi (a b : List (List Int)) (s g i c : Nat) (hgs : ∀ i : Nat, g.testBit i = true → s.testBit i = true) (hi : g.testBit i = true) : ∀ d : Nat, sumF (te a b s g i c) 0 (i + 1 + d) = - sumF (dd a b g c) 0 i + if lastg g (i + 1 + d) = (i : Int) then 0 else sumF (dd a b g c) 0 (i + 1)
  | 0 => by
    have hl : lastg g (i + 1) = (i : Int) := by unfold lastg; rw [if_pos hi]
    rw [Nat.add_zero, te_mid a b s g i c hgs hi, if_pos hl, Int.add_zero]
  | d + 1 => by
    have ih := te_hi a b s g i c hgs hi d
    rw [← Nat.add_assoc, sum_step, ih]
    have hl : lastg g (i + 1 + d + 1) = if g.testBit (i + 1 + d) = true then ((i + 1 + d : Nat) : Int) else lastg g (i + 1 + d) := rfl
    by_cases hb : g.testBit (i + 1 + d) = true
    · rw [if_pos hb] at hl
      rw [hl, if_neg (show ¬ ((i + 1 + d : Nat) : Int) = (i : Int) by omega)]
      by_cases e : lastg g (i + 1 + d) = (i : Int)
      · have ht : te a b s g i c (i + 1 + d) = sumF (dd a b g c) 0 (i + 1) := by
          unfold te pD
          rw [if_pos (hgs _ hb), if_pos (by omega), if_pos hb, if_pos e]
          exact run_last a b g c i _ e
        rw [ht, if_pos e]
        omega
      · have ht : te a b s g i c (i + 1 + d) = 0 := by
          unfold te pD
          rw [if_pos (hgs _ hb), if_pos (by omega), if_pos hb, if_neg e]
        rw [ht, if_neg e]
        omega
    · rw [if_neg hb] at hl
      have ht : te a b s g i c (i + 1 + d) = 0 := by
        unfold te pD
        rw [if_pos (show i < i + 1 + d by omega), if_neg hb]
        split <;> rfl
      rw [ht, hl, Int.add_zero]
theorem te_none (a b : List (List Int)) (s g i c : Nat) (hi : ¬ g.testBit i = true) (m : Nat) : sumF (te a b s g i c) 0 m = 0 := by
  rw [sumF_congr m 0 (g := fun _ => 0) (fun j _ _ => ?_), sumF_zero]
  unfold te pD
  by_cases h1 : s.testBit j = true
  · rw [if_pos h1]
    by_cases h2 : i < j
    · rw [if_pos h2]
      by_cases h3 : g.testBit j = true
      · rw [if_pos h3, if_neg (fun e => hi (lastg_in g i j e))]
      · rw [if_neg h3]
    · rw [if_neg h2, if_neg hi]
      split <;> rfl
  · rw [if_neg h1]
theorem hide_gv {a b l1 o : List (List Int)} {l2 p : List (List (List Int))} {n nn s g : Nat} (hn : n ≤ 64) (hT : Td l1 l2 n nn (oD a b s g) (pD a b g) o p) (hL : ∀ c : Nat, c < nn → sumF (dd a b g c) 0 n % 4294967296 = 0) (hs : ∀ i : Nat, s.testBit i = true → i < n) (hgs : ∀ i : Nat, g.testBit i = true → s.testBit i = true) (i : Nat) (hi : i < n) (hsi : s.testBit i = true) : gv a l1 l2 s nn i = gv b o p s nn i := by
  refine ext_getD (by rw [gv_len, gv_len]) (fun c hc => ?_)
  rw [gv_len] at hc
  rw [gv_get _ _ _ _ _ _ _ hc, gv_get _ _ _ _ _ _ _ hc]
  have hov := hT.ov i c hi hc
  have hsum : sumF (tc p s i c) 0 64 % 4294967296 = (sumF (tc l2 s i c) 0 64 + sumF (te a b s g i c) 0 64) % 4294967296 := by
    rw [← sumF_add]
    refine sumF_mod 64 0 (fun j _ _ => ?_)
    unfold tc te
    by_cases h1 : s.testBit j = true
    · have hj := hs j h1
      simp only [if_pos h1]
      rcases Nat.lt_trichotomy i j with h | h | h
      · simp only [if_pos h]
        rw [hT.pw i j c h hj hc]
        omega
      · simp only [if_neg (show ¬ i < j by omega), if_neg (show ¬ j < i by omega)]
        rfl
      · simp only [if_neg (show ¬ i < j by omega), if_pos h]
        rw [hT.pw j i c h hi hc]
        omega
    · simp only [if_neg h1]
      rfl
  have h64 : n + (64 - n) = 64 := by omega
  have hte : sumF (te a b s g i c) 0 64 = sumF (te a b s g i c) 0 n := by
    rw [← h64]
    exact sumF_more n 0 (64 - n) (fun j hj _ => by unfold te; rw [if_neg (fun h => by have := hs j h; omega)])
  by_cases hgi : g.testBit i = true
  · have h0 : oD a b s g i c = 0 := by unfold oD; rw [if_pos hgi]
    have hdi : dd a b g c i = (a.getD i []).getD c 0 - (b.getD i []).getD c 0 := by unfold dd; rw [if_pos hgi]
    have hst := sum_step (dd a b g c) i
    have hh := te_hi a b s g i c hgs hgi (n - (i + 1))
    rw [show i + 1 + (n - (i + 1)) = n by omega] at hh
    have hl := hL c hc
    by_cases e : lastg g n = (i : Int)
    · have hr := run_last a b g c i n e
      rw [if_pos e] at hh
      omega
    · rw [if_neg e] at hh
      omega
  · have h0 : oD a b s g i c = (a.getD i []).getD c 0 - (b.getD i []).getD c 0 := by unfold oD; rw [if_neg hgi, if_pos hsi]
    have hh := te_none a b s g i c hgi n
    omega
theorem hide_see {a b l1 o : List (List Int)} {l2 p : List (List (List Int))} {n nn s g : Nat} (F : Fine l1 l2 n nn) (sm1 : ∀ i : Nat, Small (l1.getD i [])) (sm2 : ∀ i j : Nat, Small (pv l2 i j)) (hT : Td l1 l2 n nn (oD a b s g) (pD a b g) o p) (hL : ∀ c : Nat, c < nn → sumF (dd a b g c) 0 n % 4294967296 = 0) (hs : ∀ i : Nat, s.testBit i = true → i < n) (hgs : ∀ i : Nat, g.testBit i = true → s.testBit i = true) :
    GsV a l1 l2 s n nn = GsV b o p s n nn ∧ OsV l1 g n = OsV o g n ∧ LsV l2 s g n = LsV p s g n := by
  have hn := F.n1
  refine ⟨List.map_congr_left fun i hi => ?_, List.map_congr_left fun i hi => ?_, List.map_congr_left fun i hi => List.map_congr_left fun j hj => ?_⟩
  · have hi' := List.mem_range.1 hi
    by_cases h : s.testBit i = true
    · rw [if_pos h, if_pos h]
      exact hide_gv hn.2 hT hL hs hgs i hi' h
    · rw [if_neg h, if_neg h]
  · have hi' := List.mem_range.1 hi
    by_cases h : g.testBit i = true
    · rw [if_pos h, if_pos h]
      refine ext_getDG 0 (by rw [F.o2 i hi', hT.f.o2 i hi']) (fun c hc => ?_)
      rw [F.o2 i hi'] at hc
      rw [hT.ov i c hi' hc]
      unfold oD
      rw [if_pos h]
      exact small_mod (sm1 i) c
    · rw [if_neg h, if_neg h]
  · have hi' := List.mem_range.1 hi
    have hj' := List.mem_range.1 hj
    unfold leftV
    by_cases h : j ≤ i
    · rw [if_pos h, if_pos h]
    · rw [if_neg h, if_neg h]
      by_cases h2 : (s.testBit i && s.testBit j && !(g.testBit i && g.testBit j)) = true
      · rw [if_pos h2, if_pos h2]
        have l1' := F.p3 i j hi' hj'
        have l2' := hT.f.p3 i j hi' hj'
        rw [if_neg h] at l1' l2'
        refine ext_getDG 0 (by rw [l1', l2']) (fun c hc => ?_)
        rw [l1'] at hc
        rw [hT.pw i j c (by omega) hj' hc]
        have hz : pD a b g i j c = 0 := by
          unfold pD
          by_cases h3 : g.testBit j = true
          · rw [if_pos h3, if_neg (fun e => ?_)]
            rw [lastg_in g i j e, h3] at h2
            simp at h2
          · rw [if_neg h3]
        rw [hz]
        exact small_mod (sm2 i j) c
      · rw [if_neg h2, if_neg h2]
theorem hide_l1 {a b : List (List Int)} {n nn : Nat} (hn : n ≤ 64) (ha0 : a.length = n) (hb0 : b.length = n) (ha : ∀ i : Nat, i < n → (a.getD i []).length = nn) (hb : ∀ i : Nat, i < n → (b.getD i []).length = nn) (s e : Int) (g c : Nat) (hg : g < 18446744073709551616) (hc : c < nn) (t : Bool) (m0 k0 : List (List Int)) (m1 k1 : List (List (List Int))) (r : Bool)
    (hend : Ev (fun k => offertorylaw25_IdealHides.l1 k a b s (g : Int) e t (c : Int) (sumF (dd a b g c) 0 n % 4294967296) (n : Int) m0 m1 k0 k1) r) :
    ∀ (d i : Nat), i + d = n → Ev (fun k => offertorylaw25_IdealHides.l1 k a b s (g : Int) e t (c : Int) (sumF (dd a b g c) 0 i % 4294967296) (i : Int) m0 m1 k0 k1) r := by
  intro d
  induction d with
  | zero =>
    intro i hi
    obtain rfl : i = n := by omega
    exact hend
  | succ d ih =>
    intro i hi
    have hin : i < n := by omega
    have hai := ha i hin
    have hbi := hb i hin
    have hst := sum_step (dd a b g c) i
    have h2 := ih (i + 1) (by omega)
    refine Ev.succ ?_
    simp only [offertorylaw25_IdealHides.l1]
    rw [w64 (x := (i : Int) + 1) (by omega)]
    by_cases hgi : g.testBit i = true
    · have hdi : dd a b g c i = (a.getD i []).getD c 0 - (b.getD i []).getD c 0 := by unfold dd; rw [if_pos hgi]
      have hX : (sumF (dd a b g c) 0 i % 4294967296 + ((rd (rd_L1 a (i : Int)) (c : Int)) - (rd (rd_L1 b (i : Int)) (c : Int))) % 4294967296) % 4294967296 = sumF (dd a b g c) 0 (i + 1) % 4294967296 := by
        show (sumF (dd a b g c) 0 i % 4294967296 + (((a.getD i []).getD c 0) - ((b.getD i []).getD c 0)) % 4294967296) % 4294967296 = _
        rw [hst, hdi]
        omega
      refine Ev.pos (by omega) (Ev.bind0 (in_i g i hg (by omega)) (Ev.pos hgi (Ev.pos (by omega) (Ev.pos (by omega) (Ev.pos (by show (c : Int) < ((a.getD i []).length : Int); omega) (Ev.pos (by omega) (Ev.pos (by show (c : Int) < ((b.getD i []).length : Int); omega) ?_)))))))
      rw [hX]
      exact h2
    · have hdi : dd a b g c i = 0 := by unfold dd; rw [if_neg hgi]
      refine Ev.pos (by omega) (Ev.bind0 (in_i g i hg (by omega)) (Ev.neg hgi ?_))
      rw [hst, hdi, Int.add_zero] at h2
      exact h2
theorem hide_l0 {a b : List (List Int)} {n nn : Nat} (hn1 : 1 ≤ n) (hn : n ≤ 64) (hnn : nn ≤ 256) (ha0 : a.length = n) (hb0 : b.length = n) (ha : ∀ i : Nat, i < n → (a.getD i []).length = nn) (hb : ∀ i : Nat, i < n → (b.getD i []).length = nn) (s e : Int) (g : Nat) (hg : g < 18446744073709551616) (m0 k0 : List (List Int)) (m1 k1 : List (List (List Int))) (r : Bool)
    (hend : ∀ t : Bool, (t = true ↔ ∀ c : Nat, c < nn → sumF (dd a b g c) 0 n % 4294967296 = 0) → Ev (fun k => offertorylaw25_IdealHides.l0 k a b s (g : Int) e t (nn : Int) m0 m1 k0 k1) r) :
    ∀ (d c : Nat) (t : Bool), c + d = nn → (t = true ↔ ∀ c' : Nat, c' < c → sumF (dd a b g c') 0 n % 4294967296 = 0) → Ev (fun k => offertorylaw25_IdealHides.l0 k a b s (g : Int) e t (c : Int) m0 m1 k0 k1) r := by
  have hx0 := ha 0 (by omega)
  intro d
  induction d with
  | zero =>
    intro c t hc ht
    obtain rfl : c = nn := by omega
    exact hend t ht
  | succ d ih =>
    intro c t hc ht
    refine Ev.succ ?_
    simp only [offertorylaw25_IdealHides.l0]
    refine Ev.pos (by omega) (Ev.pos (by show (c : Int) < ((a.getD 0 []).length : Int); omega) ?_)
    refine hide_l1 hn ha0 hb0 ha hb s e g c hg (by omega) t m0 k0 m1 k1 r ?_ n 0 (by omega)
    refine Ev.succ ?_
    simp only [offertorylaw25_IdealHides.l1]
    rw [w64 (x := (c : Int) + 1) (by omega)]
    refine Ev.neg (by omega) (Ev.if_ (fun h => ?_) (fun h => ?_))
    · refine ih (c + 1) _ (by omega) ?_
      rw [beq_iff_eq]
      constructor
      · intro h0 c' hc'
        by_cases e' : c' = c
        · rw [e']; exact h0
        · exact ht.1 h c' (by omega)
      · intro h0
        exact h0 c (by omega)
    · refine ih (c + 1) _ (by omega) ⟨fun h0 => (by cases h0), fun h0 => ?_⟩
      exact absurd (ht.2 (fun c' hc' => h0 c' (by omega))) h
theorem sh_nil : Sh [] := ⟨by simp, fun i => by simp⟩
theorem sh2_nil : Sh2 [] := ⟨by simp, fun i => by simpa using sh_nil⟩
theorem sh_see {l0 l1 : List (List Int)} {l2 : List (List (List Int))} {n nn : Nat} (s g : Nat) (F : Fine l1 l2 n nn) : Sh (GsV l0 l1 l2 s n nn) ∧ Sh (OsV l1 g n) ∧ Sh2 (LsV l2 s g n) := by
  have hn := F.n1
  have hnn := F.nn1
  refine ⟨⟨by simp [GsV]; omega, fun i => ?_⟩, ⟨by simp [OsV]; omega, fun i => ?_⟩, ⟨by simp [LsV]; omega, fun i => ⟨?_, fun j => ?_⟩⟩⟩
  · by_cases hi : i < n
    · unfold GsV
      rw [map_getD _ n i hi]
      split
      · rw [gv_len]; omega
      · simp
    · rw [getD_out _ [] i (by simp [GsV]; omega)]; simp
  · by_cases hi : i < n
    · unfold OsV
      rw [map_getD _ n i hi]
      split
      · rw [F.o2 i hi]; omega
      · simp
    · rw [getD_out _ [] i (by simp [OsV]; omega)]; simp
  · by_cases hi : i < n
    · unfold LsV
      rw [map_getD _ n i hi]
      simp; omega
    · rw [getD_out _ [] i (by simp [LsV]; omega)]; simp
  · by_cases hi : i < n
    · unfold LsV
      rw [map_getD _ n i hi]
      by_cases hj : j < n
      · rw [map_getD _ n j hj]
        unfold leftV
        have h3 := F.p3 i j hi hj
        split
        · simp
        · split
          · split at h3 <;> omega
          · simp
      · rw [getD_out _ [] j (by simp; omega)]; simp
    · rw [getD_out _ [] i (by simp [LsV]; omega)]; simp
theorem IdealHides (l0 l1 : List (List Int)) (l2_0 : List (List Int)) (l2_1 : List (List (List Int))) (a3 a4 : Int) (ok0 : (SliceOk 24 (SliceOk 4 (fun n => (Lit.int .u32 n).wf = true))) l0) (ok1 : (SliceOk 24 (SliceOk 4 (fun n => (Lit.int .u32 n).wf = true))) l1) (w2_0 : (SliceOk 24 (SliceOk 4 (fun n => (Lit.int .u32 n).wf = true))) l2_0) (w2_1 : (SliceOk 24 (SliceOk 24 (SliceOk 4 (fun n => (Lit.int .u32 n).wf = true)))) l2_1) (w3 : (Lit.int .u64 a3).wf = true) (w4 : (Lit.int .u64 a4).wf = true) : ∃ k, offertorylaw25_IdealHides.f k l0 l1 l2_0 l2_1 a3 a4 = some true := by
  obtain ⟨s, rfl, hs⟩ := nat_of2 w3
  obtain ⟨g, rfl, hg⟩ := nat_of2 w4
  have sm1 := smalls_of w2_0
  have sm2 := smalls2_of w2_1
  obtain ⟨o, p, e, he, hR⟩ := turn_ev l0 l1 l2_0 l2_1 s g hs hg (by have := w2_1.1; omega) sm1 sm2
  obtain ⟨e1, he1, hR1⟩ := checkL_f l0 l2_0 l2_1 s g hs hg (by have := ok0.1; omega)
  obtain ⟨e2, he2, hR2⟩ := checkL_f l1 l2_0 l2_1 s g hs hg (by have := ok1.1; omega)
  have hbad : ∀ f : Int, f ≠ 0 → e = f → o = [] → p = [] → Ev (fun k => offertorylaw25_IdealHides.j0 k l0 l1 (s : Int) (g : Int) e f l2_0 l2_1 o p) true := by
    rintro f hf rfl rfl rfl
    refine Ev.succ ?_
    simp only [offertorylaw25_IdealHides.j0]
    exact Ev.neg hf (Ev.bind0 (a := true) rfl (Ev.pos rfl (Ev.pos trivial (Ev.bind (alike_f [] [] [] [] sh_nil sh2_nil) (Ev.some_ (by simp))))))
  refine Ev.rounds ?_
  unfold offertorylaw25_IdealHides.f
  refine Ev.bind he (Ev.bind he1 (Ev.if_ (fun h1 => Ev.bind he2 ?_) (fun h1 => ?_)))
  · subst h1
    obtain ⟨a1, a2⟩ := chk_zero hR1
    by_cases h2 : e2 = 0
    · subst h2
      obtain ⟨b1, b2⟩ := chk_zero hR2
      obtain ⟨q1, q2⟩ := chk_same a1 b1
      have F := len_pos a1
      have hn := F.n1
      have hnn := F.nn1
      refine Ev.succ ?_
      simp only [offertorylaw25_IdealHides.j0]
      refine Ev.pos trivial ?_
      refine hide_l0 hn.1 hn.2 hnn rfl q1 (fun i hi => a1.2.1 i hi) (fun i hi => by have := b1.2.1 i (by omega); omega) (s : Int) e g hg l2_0 o l2_1 p true (fun t ht => ?_) (l0.getD 0 []).length 0 true (by omega) ⟨fun _ c hc => absurd hc (by omega), fun _ => rfl⟩
      refine Ev.succ ?_
      simp only [offertorylaw25_IdealHides.l0]
      refine Ev.pos (by omega) (Ev.neg (by show ¬ ((l0.getD 0 []).length : Int) < ((l0.getD 0 []).length : Int); omega) (Ev.if_ (fun h3 => ?_) (fun h3 => ?_)))
      · rcases hR with ⟨h0, _, _, h | ⟨_, h | ⟨_, _, h⟩⟩⟩ | ⟨h0, _, _, hL, hT⟩
        · exact absurd (h.unique hR1) h0
        · exact absurd (h.unique hR2) h0
        · exact absurd (ht.1 h3) h
        · have hkb : ChkA l1 o p := ⟨b1.1, b1.2.1, fine_of.2 (by rw [q1, q2]; exact hT.f)⟩
          have v1 := see_ev l0 l2_0 l2_1 s g hs hg a1 a2
          have v2 := see_ev l1 o p s g hs hg hkb b2
          rw [q1, q2] at v2
          obtain ⟨z1, z2, z3⟩ := hide_see F sm1 sm2 hT hL a2.1 a2.2
          rw [← z1, ← z2, ← z3] at v2
          obtain ⟨S1, S2, S3⟩ := sh_see (l0 := l0) s g F
          obtain ⟨sb, hsb, hsbb⟩ := soundL_f o p (l0.length : Int) ((l0.getD 0 []).length : Int)
          have hst : sb = true := hsbb.2 (fine_of.2 hT.f)
          subst hst
          exact Ev.bind v1 (Ev.bind v2 (Ev.bind0 (a := true) rfl (Ev.pos rfl (Ev.pos h0 (Ev.pos rfl (Ev.pos rfl (Ev.bind hsb (Ev.pos rfl (Ev.bind (sameP_f _ _ _ _ _ _ S1 S2 S3) (Ev.some_ (by simp)))))))))))
      · rcases hR with ⟨h0, rfl, rfl, h | ⟨_, h | ⟨_, h, _⟩⟩⟩ | ⟨_, _, _, hL, _⟩
        · exact absurd (h.unique hR1) h0
        · exact absurd (h.unique hR2) h0
        · exact Ev.bind0 (a := true) rfl (Ev.pos rfl (Ev.pos h (Ev.bind (alike_f [] [] [] [] sh_nil sh2_nil) (Ev.some_ (by simp)))))
        · exact absurd (ht.2 hL) h3
    · rcases hR with ⟨h0, ho, hp, h | ⟨_, h | ⟨h, _, _⟩⟩⟩ | ⟨_, _, h, _⟩
      · exact absurd (h.unique hR1) h0
      · exact hbad e2 h2 (h.unique hR2) ho hp
      · exact absurd (hR2.unique h) h2
      · exact absurd (hR2.unique h) h2
  · rcases hR with ⟨h0, ho, hp, h | ⟨h, _⟩⟩ | ⟨_, h, _⟩
    · exact hbad e1 h1 (h.unique hR1) ho hp
    · exact absurd (hR1.unique h) h1
    · exact absurd (hR1.unique h) h1
end Go.Proofs.YtpicmnkkkgedeaaDoor.Pure
