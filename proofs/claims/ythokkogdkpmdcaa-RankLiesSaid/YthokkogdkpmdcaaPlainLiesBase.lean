/- Stats and means, in plain numbers. -/
import Derived.Test.YthokkogdkpmdcaaPlainRank
import Derived.Test.YthokkogdkpmdcaaPlainDiv
namespace Go.Proofs.Ythokkogdkpmdcaa.Plain
open Go.RowKit Go.Proofs.Ythokkogdkpmdcaa.PAll Go.Proofs.Ythokkogdkpmdcaa.Opn Go.Proofs.Ythokkogdkpmdcaa.Base Go.Proofs.YthokkogdkpmdcaaW.PrintWords Go.Proofs.YthokkogdkpmdcaaW.PrintLast Go.Proofs.YthokkogdkpmdcaaW.PrintMore
set_option linter.unusedVariables false
set_option linter.unusedSimpArgs false
/-- One more in a bin. -/
def bump (c : List Int) (n : Nat) : List Int := c.set n (c.getD n 0 + 1)
theorem bump_length (c : List Int) (n : Nat) : (bump c n).length = c.length := by simp [bump]
theorem bump_sum : ∀ (c : List Int) (n : Nat), n < c.length → (bump c n).sum = c.sum + 1
  | a :: c, 0, _ => by simp [bump]; omega
  | a :: c, n + 1, h => by
    have := bump_sum c n (by simpa using h)
    simp only [bump, List.getD_cons_succ, List.set_cons_succ, List.sum_cons] at this ⊢
    omega
theorem bump_in {c : List Int} {n : Nat} {m : Int} (h : ∀ v ∈ c, 0 ≤ v ∧ v ≤ m) (hn : n < c.length) : ∀ v ∈ bump c n, 0 ≤ v ∧ v ≤ m + 1 := by
  intro v hv
  rcases List.mem_or_eq_of_mem_set hv with h1 | h1
  · have := h v h1; omega
  · have h2 := h (c.getD n 0) (by rw [List.getD_eq_getElem?_getD, List.getElem?_eq_getElem hn]; exact List.getElem_mem hn)
    omega
theorem getD_in {c : List Int} {n : Nat} {m : Int} (h : ∀ v ∈ c, 0 ≤ v ∧ v ≤ m) (hn : n < c.length) : 0 ≤ c.getD n 0 ∧ c.getD n 0 ≤ m :=
  h _ (by rw [List.getD_eq_getElem?_getD, List.getElem?_eq_getElem hn]; exact List.getElem_mem hn)
/-- The counts behind some samples more. -/
def counts (lo hi : Int) (es : List Int) (c l : List Int) : List Int := l.foldl (fun c x => bump c (binN es (clampV lo hi x))) c
theorem counts_length (lo hi : Int) (es : List Int) : ∀ (l c : List Int), (counts lo hi es c l).length = c.length
  | [], c => rfl
  | x :: l, c => by
    show (counts lo hi es (bump c _) l).length = _
    rw [counts_length lo hi es l, bump_length]
theorem counts_sum (lo hi : Int) (es : List Int) : ∀ (l c : List Int), c.length = es.length + 1 → (counts lo hi es c l).sum = c.sum + l.length
  | [], c, h => by simp [counts]
  | x :: l, c, h => by
    show (counts lo hi es (bump c _) l).sum = _
    have hb := binN_le es (clampV lo hi x)
    rw [counts_sum lo hi es l _ (by rw [bump_length]; exact h), bump_sum _ _ (by omega)]
    simp only [List.length_cons]; omega
theorem counts_in (lo hi : Int) (es : List Int) : ∀ (l c : List Int) (m : Int), c.length = es.length + 1 → (∀ v ∈ c, 0 ≤ v ∧ v ≤ m) → ∀ v ∈ counts lo hi es c l, 0 ≤ v ∧ v ≤ m + l.length
  | [], c, m, _, h => by simpa [counts] using h
  | x :: l, c, m, hc, h => by
    show ∀ v ∈ counts lo hi es (bump c _) l, _
    have hb := binN_le es (clampV lo hi x)
    have := counts_in lo hi es l (bump c (binN es (clampV lo hi x))) (m + 1) (by rw [bump_length]; exact hc) (bump_in h (by omega))
    intro v hv
    have := this v hv
    simp only [List.length_cons]; omega
theorem counts_append (lo hi : Int) (es c l m : List Int) : counts lo hi es c (l ++ m) = counts lo hi es (counts lo hi es c l) m := by simp [counts, List.foldl_append]
/-- No samples yet. -/
def zeros (es : List Int) : List Int := List.replicate (es.length + 1) 0
theorem zeros_length (es : List Int) : (zeros es).length = es.length + 1 := by simp [zeros]
theorem zeros_in (es : List Int) : ∀ v ∈ zeros es, (0 : Int) ≤ v ∧ v ≤ 0 := by
  intro v hv
  have := (List.mem_replicate.1 hv).2
  omega
theorem zeros_sum (es : List Int) : (zeros es).sum = 0 := by
  unfold zeros
  induction es.length + 1 with
  | zero => rfl
  | succ n ih => rw [List.replicate_succ, List.sum_cons, ih]; rfl
set_option linter.unusedSimpArgs false

/-- The number of a wide one; a number's wide one. -/
def wv (hi lo : Int) : Int := lo + hi * 18446744073709551616
def wd (v : Int) : Int × Int := (v / 18446744073709551616 % 18446744073709551616, v % 18446744073709551616)
def W64 (x : Int) : Prop := 0 ≤ x ∧ x ≤ 18446744073709551615
theorem wd_in (v : Int) : W64 (wd v).1 ∧ W64 (wd v).2 := by simp only [wd, W64]; omega
theorem wv_wd (v : Int) : wv (wd v).1 (wd v).2 = v % 340282366920938463463374607431768211456 := by simp only [wv, wd]; omega
theorem wd_wv {hi lo : Int} (h : W64 hi) (l : W64 lo) : wd (wv hi lo) = (hi, lo) := by
  unfold W64 at h l
  simp only [wv, wd, Prod.mk.injEq]; omega
theorem wd_mod {v u : Int} (h : v % 340282366920938463463374607431768211456 = u % 340282366920938463463374607431768211456) : wd v = wd u := by
  simp only [wd, Prod.mk.injEq]; omega
theorem wd_emod (v : Int) : wd (v % 340282366920938463463374607431768211456) = wd v := wd_mod (by omega)
theorem bD_in (v : Int) (i : Nat) : 0 ≤ bigD v i ∧ bigD v i ≤ 65535 := by unfold bigD; omega
theorem dig_digs (v : Int) : Dig (bigD v 0) (bigD v 1) (bigD v 2) (bigD v 3) (bigD v 4) (bigD v 5) (bigD v 6) (bigD v 7) :=
  ⟨bD_in v 0, bD_in v 1, bD_in v 2, bD_in v 3, bD_in v 4, bD_in v 5, bD_in v 6, bD_in v 7⟩
theorem bV_digs (v : Int) : bigV (bigD v 0) (bigD v 1) (bigD v 2) (bigD v 3) (bigD v 4) (bigD v 5) (bigD v 6) (bigD v 7) = v % 340282366920938463463374607431768211456 := by
  simp only [bigV, bigD]
  omega
theorem digs_eq {v w : Int} (h : v % 340282366920938463463374607431768211456 = w % 340282366920938463463374607431768211456) : digs v = digs w := by
  have key : ∀ x : Int, digs x = digs (x % 340282366920938463463374607431768211456) := by
    intro x
    simp only [digs, bigD, Prod.mk.injEq]
    omega
  rw [key v, key w, h]
theorem of_f {hi lo : Int} (h : W64 hi) (l : W64 lo) : offertoryref09_Of.f hi lo = some (digs (wv hi lo)) := by
  unfold offertoryref09_Of.f
  rw [if_pos ⟨h, l⟩]
  rfl
theorem bigAdd_f (u v : Int) : offertoryref09_Add.f (bigD u 0) (bigD u 1) (bigD u 2) (bigD u 3) (bigD u 4) (bigD u 5) (bigD u 6) (bigD u 7) (bigD v 0) (bigD v 1) (bigD v 2) (bigD v 3) (bigD v 4) (bigD v 5) (bigD v 6) (bigD v 7) = some (digs (u + v)) := by
  unfold offertoryref09_Add.f
  rw [if_pos ⟨dig_digs u, dig_digs v⟩, bV_digs, bV_digs]
  congr 1
  exact digs_eq (by omega)
theorem mod_mul (u v m : Int) : (u % m * (v % m)) % m = (u * v) % m := (Int.mul_emod u v m).symm
theorem bigMul_f (u v : Int) : offertoryref09_Mul.f (bigD u 0) (bigD u 1) (bigD u 2) (bigD u 3) (bigD u 4) (bigD u 5) (bigD u 6) (bigD u 7) (bigD v 0) (bigD v 1) (bigD v 2) (bigD v 3) (bigD v 4) (bigD v 5) (bigD v 6) (bigD v 7) = some (digs (u * v)) := by
  unfold offertoryref09_Mul.f
  rw [if_pos ⟨dig_digs u, dig_digs v⟩, bV_digs, bV_digs]
  congr 1
  exact digs_eq (mod_mul u v _)
theorem bigNeg_f (v : Int) : offertoryref09_Neg.f (bigD v 0) (bigD v 1) (bigD v 2) (bigD v 3) (bigD v 4) (bigD v 5) (bigD v 6) (bigD v 7) = some (digs (-v)) := by
  unfold offertoryref09_Neg.f
  rw [if_pos (dig_digs v), bV_digs]
  congr 1
  exact digs_eq (by omega)
theorem bigWide_f (v : Int) : offertoryref09_Big_Wide.f (bigD v 0) (bigD v 1) (bigD v 2) (bigD v 3) (bigD v 4) (bigD v 5) (bigD v 6) (bigD v 7) = some (wd v) := by
  unfold offertoryref09_Big_Wide.f
  rw [if_pos (dig_digs v)]
  simp only [wd, bigD, Option.some.injEq, Prod.mk.injEq]
  omega
/-- A number by 2^128 that counts as below 0. -/
def negB (u : Int) : Bool := decide (170141183460469231731687303715884105728 ≤ u % 340282366920938463463374607431768211456)
/-- A sum without its sign. -/
def resS (u : Int) : Int × Int × Bool := if negB u = true then ((wd (-u)).1, (wd (-u)).2, true) else ((wd u).1, (wd u).2, false)
theorem bigInt_f {x : Int} (h : -9223372036854775808 ≤ x ∧ x ≤ 9223372036854775807) : offertoryref09_Int.f x = some (digs x) := by
  unfold offertoryref09_Int.f
  rw [if_pos h]
def signD (u : Int) : Int × Int × Int × Int × Int × Int × Int × Int × Bool :=
  if negB u = true then (bigD (-u) 0, bigD (-u) 1, bigD (-u) 2, bigD (-u) 3, bigD (-u) 4, bigD (-u) 5, bigD (-u) 6, bigD (-u) 7, true) else (bigD u 0, bigD u 1, bigD u 2, bigD u 3, bigD u 4, bigD u 5, bigD u 6, bigD u 7, false)
theorem neg7 (u : Int) : bigD u 7 ≥ 32768 ↔ negB u = true := by
  unfold negB bigD
  rw [decide_eq_true_eq]
  constructor <;> intro h <;> omega
theorem bigSigned_f (u : Int) : offertoryref09_Signed.f (bigD u 0) (bigD u 1) (bigD u 2) (bigD u 3) (bigD u 4) (bigD u 5) (bigD u 6) (bigD u 7) = some (signD u) := by
  unfold offertoryref09_Signed.f signD
  by_cases h : negB u = true
  · rw [if_pos ((neg7 u).2 h), if_pos h, bigNeg_f]; rfl
  · rw [if_neg (fun x => h ((neg7 u).1 x)), if_neg h]
theorem signWide (u : Int) : (offertoryref09_Big_Wide.f (signD u).1 (signD u).2.1 (signD u).2.2.1 (signD u).2.2.2.1 (signD u).2.2.2.2.1 (signD u).2.2.2.2.2.1 (signD u).2.2.2.2.2.2.1 (signD u).2.2.2.2.2.2.2.1) = some ((resS u).1, (resS u).2.1) := by
  unfold signD resS
  split
  · exact bigWide_f (-u)
  · exact bigWide_f u
theorem signBool (u : Int) : (signD u).2.2.2.2.2.2.2.2 = (resS u).2.2 := by unfold signD resS; split <;> rfl
/-- The sum of the samples as they count; of their squares. -/
def sumC (lo hi : Int) (l : List Int) : Int := (l.map (clampV lo hi)).sum
def sqC (lo hi : Int) (l : List Int) : Int := (l.map fun x => clampV lo hi x * clampV lo hi x).sum
theorem sumC_cons (lo hi x : Int) (l : List Int) : sumC lo hi (x :: l) = clampV lo hi x + sumC lo hi l := by simp [sumC]
theorem sqC_cons (lo hi x : Int) (l : List Int) : sqC lo hi (x :: l) = clampV lo hi x * clampV lo hi x + sqC lo hi l := by simp [sqC]
theorem drop_get {l : List Int} {i : Nat} (h : i < l.length) : l.drop i = l.getD i 0 :: l.drop (i + 1) := by
  rw [List.drop_eq_getElem_cons h]
  simp [List.getD, List.getElem?_eq_getElem h]
def statsV (lo hi : Int) (es c l : List Int) (n S Q : Int) : List Int × Int × Int × Int × Int × Int × Bool :=
  (counts lo hi es c l, n, (resS (S + sumC lo hi l)).1, (resS (S + sumC lo hi l)).2.1, (wd (Q + sqC lo hi l)).1, (wd (Q + sqC lo hi l)).2, (resS (S + sumC lo hi l)).2.2)
theorem statsV_nil (lo hi : Int) (es c : List Int) (n S Q : Int) : statsV lo hi es c [] n S Q = (c, n, (resS S).1, (resS S).2.1, (wd Q).1, (wd Q).2, (resS S).2.2) := by
  have e1 : sumC lo hi [] = 0 := rfl
  have e2 : sqC lo hi [] = 0 := rfl
  unfold statsV
  rw [e1, e2, Int.add_zero, Int.add_zero]
  rfl
theorem statsV_cons (lo hi : Int) (es c l : List Int) (x n S Q : Int) : statsV lo hi es c (x :: l) n S Q = statsV lo hi es (bump c (binN es (clampV lo hi x))) l n (S + clampV lo hi x) (Q + clampV lo hi x * clampV lo hi x) := by
  unfold statsV
  rw [sumC_cons, sqC_cons, ← Int.add_assoc, ← Int.add_assoc]
  rfl
theorem refStats_l0 (lo hi most : Int) (es l : List Int) (cnt : Int) (hs : soundE lo hi most es = 0) (hlm : l.length ≤ 1000000) : ∀ (d i : Nat) (c : List Int) (S Q : Int), l.length - i = d → i ≤ l.length → c.length = es.length + 1 → (∀ v ∈ c, 0 ≤ v ∧ v ≤ (i : Int)) →
    Ev (fun k => offertoryref09_Stats.l0 k l (i : Int) lo hi most es c cnt 0 0 0 0 false (bigD S 0) (bigD S 1) (bigD S 2) (bigD S 3) (bigD S 4) (bigD S 5) (bigD S 6) (bigD S 7) (bigD Q 0) (bigD Q 1) (bigD Q 2) (bigD Q 3) (bigD Q 4) (bigD Q 5) (bigD Q 6) (bigD Q 7)) (statsV lo hi es c (l.drop i) cnt S Q)
  | d, i, c, S, Q, hd, hi', hc, hin => by
    obtain ⟨a1, a2, a3, a4, a5, a6, a7, a8⟩ := sound0 hs
    refine Ev.succ ?_
    simp only [offertoryref09_Stats.l0, rd_nat]
    by_cases h : i < l.length
    · have hb := binN_le es (clampV lo hi (l.getD i 0))
      have hf := refBin_f lo hi most es (l.getD i 0) a3 a8
      have hcv := clampV_in a3 (l.getD i 0)
      have hw := bigInt_f (x := clampV lo hi (l.getD i 0)) (by omega)
      refine Ev.pos (by omega) (Ev.pos (by omega) (Ev.bind hf (Ev.pos (by omega) (Ev.pos (by omega) (Ev.bind0 (refClamp_f a3 most es _) (Ev.bind0 hw (Ev.bind0 (bigAdd_f S _) (Ev.bind0 (bigMul_f _ _) (Ev.bind0 (bigAdd_f Q _) ?_)))))))))
      have hg := getD_in hin (n := binN es (clampV lo hi (l.getD i 0))) (by omega)
      rw [rd_nat, w64 (x := (i : Int) + 1) (by omega), w64 (by omega)]
      have ih := refStats_l0 lo hi most es l cnt hs hlm (d - 1) (i + 1) (bump c (binN es (clampV lo hi (l.getD i 0)))) (S + clampV lo hi (l.getD i 0)) (Q + clampV lo hi (l.getD i 0) * clampV lo hi (l.getD i 0)) (by omega) (by omega) (by rw [bump_length]; exact hc) (by
        have := bump_in hin (n := binN es (clampV lo hi (l.getD i 0))) (by omega)
        intro v hv
        have := this v hv
        omega)
      rw [drop_get h, statsV_cons]
      exact ih
    · refine Ev.neg (by omega) (Ev.bind0 (bigWide_f Q) (Ev.bind0 (bigSigned_f S) (Ev.bind0 (signWide S) (Ev.some_ ?_))))
      rw [List.drop_eq_nil_of_le (by omega), statsV_nil, signBool]
  termination_by d _ _ _ _ => d
  decreasing_by all_goals omega
theorem refStats_f (lo hi most : Int) (es l : List Int) (hs : soundE lo hi most es = 0) (hlm : l.length ≤ 1000000) : Ev (fun k => offertoryref09_Stats.f k lo hi most es l) (statsV lo hi es (zeros es) l l.length 0 0) := by
  obtain ⟨a1, a2, a3, a4, a5, a6, a7, a8⟩ := sound0 hs
  unfold offertoryref09_Stats.f
  rw [w64 (by omega)]
  refine Ev.pos (by omega) (Ev.pos (by omega) ?_)
  have := refStats_l0 lo hi most es l l.length hs hlm _ 0 (zeros es) 0 0 rfl (Nat.zero_le _) (zeros_length es) (zeros_in es)
  rw [show ((es.length : Int) + 1).toNat = es.length + 1 by omega]
  exact this
/-- The mean of a sum by a count. -/
def meanV (c s : Int) (b : Bool) : Int × Int :=
  if c < 1 then (0, 1) else if b = true then (if 9223372036854775808 * c < s then (0, 4) else (-s / c, 0)) else (if 9223372036854775808 * c ≤ s then (0, 4) else (s / c, 0))
theorem neg_div {s c : Int} (hc : 0 < c) : -s / c = if s % c > 0 then - (s / c) - 1 else - (s / c) := by
  have e := Int.mul_ediv_add_emod s c
  have h0 := Int.emod_nonneg s (b := c) (by omega)
  have h1 := Int.emod_lt_of_pos s hc
  split
  · have : -s = (c - s % c) + c * (- (s / c) - 1) := by rw [Int.mul_sub, Int.mul_neg]; omega
    rw [this, Int.add_mul_ediv_left _ _ (by omega), Int.ediv_eq_zero_of_lt (by omega) (by omega), Int.zero_add]
  · have : -s = 0 + c * (- (s / c)) := by rw [Int.mul_neg]; omega
    rw [this, Int.add_mul_ediv_left _ _ (by omega), Int.zero_ediv, Int.zero_add]
theorem mean_f (l : List Int) (c hi lo q1 q2 : Int) (b : Bool) (hc : -9223372036854775808 ≤ c ∧ c ≤ 9223372036854775807) (h : W64 hi) (k : W64 lo) :
    Ev (fun k => rank_Mean.f k l c hi lo q1 q2 b) (meanV c (wv hi lo) b) := by
  unfold W64 at h k
  have hw : wv hi lo = lo + hi * 18446744073709551616 := rfl
  unfold rank_Mean.f meanV
  refine Ev.if_ (fun h1 => ?_) (fun h1 => ?_)
  · rw [if_pos h1]; exact Ev.some_ rfl
  · rw [if_neg h1, wu64 (x := c) (by omega)]
    refine Ev.if_ (fun h2 => ?_) (fun h2 => ?_)
    · rw [if_pos (show 9223372036854775808 * c < wv hi lo by omega), if_pos (show 9223372036854775808 * c ≤ wv hi lo by omega), ite_self]
      exact Ev.some_ rfl
    · refine Ev.bind (div64_f (by omega) (by omega) (by omega)) ?_
      rw [← hw, neg_div (by omega)]
      have e := Int.mul_ediv_add_emod (wv hi lo) c
      have r0 := Int.emod_nonneg (wv hi lo) (b := c) (by omega)
      have r1 := Int.emod_lt_of_pos (wv hi lo) (b := c) (by omega)
      have q0 : 0 ≤ wv hi lo / c := Int.ediv_nonneg (by omega) (by omega)
      generalize hq : wv hi lo / c = q at *
      generalize hr : wv hi lo % c = r at *
      have hcm : c * 9223372036854775808 = 9223372036854775808 * c := Int.mul_comm _ _
      refine Ev.if_ (fun hb => ?_) (fun hb => ?_)
      · rw [if_pos hb]
        have neg1 : q ≤ 9223372036854775807 → 0 < r → wrap64 (IntKind.u64.wrap (IntKind.u64.wrap (-q) - 1)) = -q - 1 := by
          intro h3 h4
          rw [IntKind.wrap_u64, IntKind.wrap_u64]
          unfold wrap64
          omega
        have neg2 : q ≤ 9223372036854775808 → wrap64 (IntKind.u64.wrap (-q)) = -q := by
          intro h3
          rw [IntKind.wrap_u64]
          unfold wrap64
          omega
        have big : 9223372036854775808 < q → 9223372036854775808 * c < wv hi lo := by
          intro h3
          have : c * 9223372036854775809 ≤ c * q := Int.mul_le_mul_of_nonneg_left (by omega) (by omega)
          omega
        have small : q < 9223372036854775808 → ¬ 9223372036854775808 * c < wv hi lo := by
          intro h3
          have : c * q ≤ c * 9223372036854775807 := Int.mul_le_mul_of_nonneg_left (by omega) (by omega)
          omega
        refine Ev.if_ (fun h3 => ?_) (fun h3 => Ev.if_ (fun h4 => ?_) (fun h4 => ?_))
        · rw [if_pos (big h3)]
          refine Ev.succ ?_
          simp only [rank_Mean.j0]
          exact Ev.pos trivial (Ev.some_ rfl)
        · replace h4 : q = 9223372036854775808 := h4
          refine Ev.succ ?_
          simp only [rank_Mean.j0]
          rw [h4] at e
          by_cases h5 : r > 0
          · rw [if_pos (show 9223372036854775808 * c < wv hi lo by omega)]
            exact Ev.pos (decide_eq_true h5) (Ev.some_ rfl)
          · rw [if_neg (show ¬ 9223372036854775808 * c < wv hi lo by omega), if_neg h5]
            refine Ev.neg (by rw [decide_eq_true_eq]; exact h5) (Ev.some_ ?_)
            rw [neg2 (by omega), if_neg h5]
        · have h3 : ¬ q > 9223372036854775808 := h3
          have h4 : ¬ q = 9223372036854775808 := h4
          rw [if_neg (small (by omega))]
          refine Ev.succ ?_
          simp only [rank_Mean.j0]
          refine Ev.neg (by simp) (Ev.if_ (fun h5 => ?_) (fun h5 => ?_))
          · rw [if_pos h5, neg1 (by omega) h5]; exact Ev.some_ rfl
          · rw [if_neg h5, neg2 (by omega)]; exact Ev.some_ rfl
      · rw [if_neg hb]
        refine Ev.if_ (fun h3 => ?_) (fun h3 => ?_)
        · have h3 : q > 9223372036854775807 := h3
          have : c * 9223372036854775808 ≤ c * q := Int.mul_le_mul_of_nonneg_left (by omega) (by omega)
          rw [if_pos (by omega)]
          exact Ev.some_ rfl
        · have h3 : ¬ q > 9223372036854775807 := h3
          have : c * q ≤ c * 9223372036854775807 := Int.mul_le_mul_of_nonneg_left (by omega) (by omega)
          rw [if_neg (by omega)]
          refine Ev.some_ ?_
          show (wrap64 q, (0 : Int)) = (q, 0)
          rw [w64 (by omega)]
end Go.Proofs.Ythokkogdkpmdcaa.Plain
