/- The plain lemmas of these laws, joined into one text: PlainAwake13, PlainBig, PlainBigMul, PlainWideMul, PlainWide, PlainWideW, PlainSign, PlainClamp, PlainBits, PlainWideShift, PlainBinFind, PlainStatsOf, PlainDecode, PlainEncode, PlainVec, PlainStatsLaw, PlainBigWide, PlainBigNeg, PlainBigSign, PlainRefStats. -/
import Derived.Test.YtdpekjffjobabaaPAllx
import Derived.Test.YtdpekjffjobabaaBase
namespace Go.Proofs.Ytdpekjffjobabaa.Plain
open Go.RowKit Go.Proofs.Ytdpekjffjobabaa.PAll Go.Proofs.Ytdpekjffjobabaa.Opn Go.Proofs.Ytdpekjffjobabaa.Base Go.Proofs.YtdpekjffjobabaaW.PrintWords Go.Proofs.YtdpekjffjobabaaW.PrintLast Go.Proofs.YtdpekjffjobabaaW.PrintMore
set_option linter.unusedVariables false
set_option linter.unusedSimpArgs false
set_option maxRecDepth 100000 in
theorem awake_f : Ev (fun k => offertorylaw13_awake.f k) true := Ev.of (k := 40) (fun k => offertorylaw13_awake.mono k) (by decide +kernel)
/-- The number of a wide one; a number's wide one. -/
def wv (hi lo : Int) : Int := lo + hi * 18446744073709551616
def wd (v : Int) : Int × Int := (v / 18446744073709551616 % 18446744073709551616, v % 18446744073709551616)
def W64 (x : Int) : Prop := 0 ≤ x ∧ x ≤ 18446744073709551615
theorem wd_in (v : Int) : W64 (wd v).1 ∧ W64 (wd v).2 := by simp only [wd, W64]; omega
theorem wv_wd (v : Int) : wv (wd v).1 (wd v).2 = v % 340282366920938463463374607431768211456 := by simp only [wv, wd]; omega
theorem wd_wv {hi lo : Int} (h : W64 hi) (l : W64 lo) : wd (wv hi lo) = (hi, lo) := by
  unfold W64 at h l
  simp only [wv, wd, Prod.mk.injEq]; omega
theorem wd_mod {v u : Int} (h : v % 340282366920938463463374607431768211456 = u % 340282366920938463463374607431768211456) : wd v = wd u := by
  simp only [wd, Prod.mk.injEq]; omega
theorem wd_emod (v : Int) : wd (v % 340282366920938463463374607431768211456) = wd v := wd_mod (by omega)

theorem bD_in (v : Int) (i : Nat) : 0 ≤ bigD v i ∧ bigD v i ≤ 65535 := by unfold bigD; omega
theorem dig_digs (v : Int) : Dig (bigD v 0) (bigD v 1) (bigD v 2) (bigD v 3) (bigD v 4) (bigD v 5) (bigD v 6) (bigD v 7) :=
  ⟨bD_in v 0, bD_in v 1, bD_in v 2, bD_in v 3, bD_in v 4, bD_in v 5, bD_in v 6, bD_in v 7⟩
theorem bV_digs (v : Int) : bigV (bigD v 0) (bigD v 1) (bigD v 2) (bigD v 3) (bigD v 4) (bigD v 5) (bigD v 6) (bigD v 7) = v % 340282366920938463463374607431768211456 := by
  simp only [bigV, bigD]
  omega
theorem digs_eq {v w : Int} (h : v % 340282366920938463463374607431768211456 = w % 340282366920938463463374607431768211456) : digs v = digs w := by
  have key : ∀ x : Int, digs x = digs (x % 340282366920938463463374607431768211456) := by
    intro x
    simp only [digs, bigD, Prod.mk.injEq]
    omega
  rw [key v, key w, h]
theorem of_f {hi lo : Int} (h : W64 hi) (l : W64 lo) : offertoryref09_Of.f hi lo = some (digs (wv hi lo)) := by
  unfold offertoryref09_Of.f
  rw [if_pos ⟨h, l⟩]
  rfl
theorem bigAdd_f (u v : Int) : offertoryref09_Add.f (bigD u 0) (bigD u 1) (bigD u 2) (bigD u 3) (bigD u 4) (bigD u 5) (bigD u 6) (bigD u 7) (bigD v 0) (bigD v 1) (bigD v 2) (bigD v 3) (bigD v 4) (bigD v 5) (bigD v 6) (bigD v 7) = some (digs (u + v)) := by
  unfold offertoryref09_Add.f
  rw [if_pos ⟨dig_digs u, dig_digs v⟩, bV_digs, bV_digs]
  congr 1
  exact digs_eq (by omega)
theorem mod_mul (u v m : Int) : (u % m * (v % m)) % m = (u * v) % m := (Int.mul_emod u v m).symm
theorem bigMul_f (u v : Int) : offertoryref09_Mul.f (bigD u 0) (bigD u 1) (bigD u 2) (bigD u 3) (bigD u 4) (bigD u 5) (bigD u 6) (bigD u 7) (bigD v 0) (bigD v 1) (bigD v 2) (bigD v 3) (bigD v 4) (bigD v 5) (bigD v 6) (bigD v 7) = some (digs (u * v)) := by
  unfold offertoryref09_Mul.f
  rw [if_pos ⟨dig_digs u, dig_digs v⟩, bV_digs, bV_digs]
  congr 1
  exact digs_eq (mod_mul u v _)
theorem and_mask32 {x : Int} (h : W64 x) : Go.bits .and .u64 x 4294967295 = x % 4294967296 := by
  obtain ⟨h0, h1⟩ := h
  obtain ⟨n, rfl⟩ := Int.eq_ofNat_of_zero_le h0
  have := bits_and_u64_nat n 4294967295 (by omega) (by decide)
  rw [show ((4294967295 : Nat) : Int) = 4294967295 from rfl] at this
  rw [this, Nat.and_two_pow_sub_one_eq_mod n 32]
  rfl
theorem prod32 {x y : Int} (h0 : 0 ≤ x) (h1 : x ≤ 4294967295) (h2 : 0 ≤ y) (h3 : y ≤ 4294967295) : 0 ≤ x * y ∧ x * y ≤ 18446744065119617025 := by
  refine ⟨Int.mul_nonneg h0 h2, ?_⟩
  have := Int.mul_le_mul h1 h3 h2 (by omega : (0 : Int) ≤ 4294967295)
  omega
theorem mul64_f {a b : Int} (ha : W64 a) (hb : W64 b) : bits_Mul64.f a b = some (a * b / 18446744073709551616, a * b % 18446744073709551616) := by
  unfold bits_Mul64.f
  rw [and_mask32 ha, and_mask32 hb]
  unfold W64 at ha hb
  have p11 := prod32 (x := a / 4294967296) (y := b / 4294967296) (by omega) (by omega) (by omega) (by omega)
  have p10 := prod32 (x := a / 4294967296) (y := b % 4294967296) (by omega) (by omega) (by omega) (by omega)
  have p01 := prod32 (x := a % 4294967296) (y := b / 4294967296) (by omega) (by omega) (by omega) (by omega)
  have p00 := prod32 (x := a % 4294967296) (y := b % 4294967296) (by omega) (by omega) (by omega) (by omega)
  have hab : a * b = a / 4294967296 * (b / 4294967296) * 18446744073709551616 + (a / 4294967296 * (b % 4294967296) + a % 4294967296 * (b / 4294967296)) * 4294967296 + a % 4294967296 * (b % 4294967296) := by
    have e1 : a = a / 4294967296 * 4294967296 + a % 4294967296 := by omega
    have e2 : b = b / 4294967296 * 4294967296 + b % 4294967296 := by omega
    generalize a / 4294967296 = x1 at *
    generalize a % 4294967296 = x0 at *
    generalize b / 4294967296 = y1 at *
    generalize b % 4294967296 = y0 at *
    subst e1 e2
    simp only [Int.add_mul, Int.mul_add]
    have f1 : x1 * 4294967296 * (y1 * 4294967296) = x1 * y1 * 18446744073709551616 := by
      rw [Int.mul_assoc, Int.mul_left_comm 4294967296 y1, ← Int.mul_assoc]
      rfl
    have f2 : x1 * 4294967296 * y0 = x1 * y0 * 4294967296 := by rw [Int.mul_assoc, Int.mul_comm 4294967296 y0, ← Int.mul_assoc]
    have f3 : x0 * (y1 * 4294967296) = x0 * y1 * 4294967296 := by rw [← Int.mul_assoc]
    rw [f1, f2, f3]
    omega
  rw [hab]
  generalize a / 4294967296 * (b / 4294967296) = q11 at *
  generalize a / 4294967296 * (b % 4294967296) = q10 at *
  generalize a % 4294967296 * (b / 4294967296) = q01 at *
  generalize a % 4294967296 * (b % 4294967296) = q00 at *
  clear hab ha hb
  rw [wu64 (x := q00) (by omega), wu64 (x := q10) (by omega), wu64 (x := q10 + q00 / 4294967296) (by omega), wu64 (x := q11) (by omega), wu64 (x := q01) (by omega)]
  rw [and_mask32 (by unfold W64; omega)]
  obtain ⟨u, v, hu, hv, e0, hv0, hv1⟩ : ∃ u v, u = q00 / 4294967296 ∧ v = q00 % 4294967296 ∧ q00 = u * 4294967296 + v ∧ 0 ≤ v ∧ v ≤ 4294967295 := ⟨_, _, rfl, rfl, by omega, by omega, by omega⟩
  rw [← hu]
  have bu : 0 ≤ u ∧ u ≤ 4294967294 := by omega
  clear hu hv
  subst e0
  obtain ⟨t1, t0, ht1, ht0, et, b0, b1⟩ : ∃ t1 t0, t1 = (q10 + u) / 4294967296 ∧ t0 = (q10 + u) % 4294967296 ∧ q10 + u = t1 * 4294967296 + t0 ∧ 0 ≤ t0 ∧ t0 ≤ 4294967295 := ⟨_, _, rfl, rfl, by omega, by omega, by omega⟩
  rw [← ht1, ← ht0]
  have bt : 0 ≤ t1 ∧ t1 ≤ 4294967295 := by omega
  clear ht1 ht0
  rw [wu64 (x := t0 + q01) (by omega), wu64 (x := q11 + t1) (by omega)]
  obtain ⟨s1, s0, hs1, hs0, es, c0, c1⟩ : ∃ s1 s0, s1 = (t0 + q01) / 4294967296 ∧ s0 = (t0 + q01) % 4294967296 ∧ t0 + q01 = s1 * 4294967296 + s0 ∧ 0 ≤ s0 ∧ s0 ≤ 4294967295 := ⟨_, _, rfl, rfl, by omega, by omega, by omega⟩
  rw [← hs1]
  have bs : 0 ≤ s1 ∧ s1 ≤ 4294967295 := by omega
  clear hs1 hs0
  rw [wu64 (x := q11 + t1 + s1) (by omega), IntKind.wrap_u64]
  have e5 : q11 * 18446744073709551616 + (q10 + q01) * 4294967296 + (u * 4294967296 + v) = (q11 + t1 + s1) * 18446744073709551616 + (s0 * 4294967296 + v) := by omega
  rw [e5]
  refine congrArg some (Prod.ext ?_ rfl)
  show q11 + t1 + s1 = ((q11 + t1 + s1) * 18446744073709551616 + (s0 * 4294967296 + v)) / 18446744073709551616
  generalize q11 + t1 + s1 = z
  omega
theorem wMul_f {a b : Int} (ha : W64 a) (hb : W64 b) : wide_Mul.f a b = some (wd (a * b)) := by
  unfold wide_Mul.f
  rw [mul64_f ha hb]
  simp only [Option.bind_some, wd]
  have h := Int.mul_nonneg ha.1 hb.1
  have h2 := Int.mul_le_mul ha.2 hb.2 hb.1 (by omega : (0 : Int) ≤ 18446744073709551615)
  refine congrArg some (Prod.ext ?_ ?_)
  · show a * b / 18446744073709551616 = a * b / 18446744073709551616 % 18446744073709551616
    generalize a * b = c at *
    omega
  · rfl
theorem wAdd_f {h1 l1 h2 l2 : Int} (a : W64 h1) (b : W64 l1) (c : W64 h2) (d : W64 l2) : wide_Add.f h1 l1 h2 l2 = some (wd (wv h1 l1 + wv h2 l2)) := by
  unfold W64 at a b c d
  unfold wide_Add.f
  rw [if_pos (by omega)]
  simp only [wd, wv, Option.some.injEq, Prod.mk.injEq]
  omega
theorem wSub_f {h1 l1 h2 l2 : Int} (a : W64 h1) (b : W64 l1) (c : W64 h2) (d : W64 l2) : wide_Sub.f h1 l1 h2 l2 = some (wd (wv h1 l1 - wv h2 l2)) := by
  unfold W64 at a b c d
  unfold wide_Sub.f borrow
  rw [if_pos (by omega)]
  simp only [wd, wv, Option.some.injEq, Prod.mk.injEq]
  split <;> omega
theorem wNeg_f {h1 l1 : Int} (a : W64 h1) (b : W64 l1) : wide_Neg.f h1 l1 = some (wd (- wv h1 l1)) := by
  unfold wide_Neg.f
  rw [wSub_f (by unfold W64; omega) (by unfold W64; omega) a b]
  simp only [Option.bind_some]
  rw [show wv 0 0 - wv h1 l1 = - wv h1 l1 by unfold wv; omega]
theorem add_w (u v : Int) : wide_Add.f (wd u).1 (wd u).2 (wd v).1 (wd v).2 = some (wd (u + v)) := by
  rw [wAdd_f (wd_in u).1 (wd_in u).2 (wd_in v).1 (wd_in v).2, wv_wd, wv_wd]
  congr 1
  exact wd_mod (by omega)
theorem neg_w (u : Int) : wide_Neg.f (wd u).1 (wd u).2 = some (wd (-u)) := by
  rw [wNeg_f (wd_in u).1 (wd_in u).2, wv_wd]
  congr 1
  exact wd_mod (by omega)
theorem of_w {x : Int} (h : -9223372036854775808 ≤ x ∧ x ≤ 9223372036854775807) : stats_of.f x = some (wd x) := by
  unfold stats_of.f
  rw [IntKind.wrap_u64]
  split
  · refine congrArg some (Prod.ext ?_ rfl)
    show (18446744073709551615 : Int) = x / 18446744073709551616 % 18446744073709551616
    omega
  · refine congrArg some (Prod.ext ?_ rfl)
    show (0 : Int) = x / 18446744073709551616 % 18446744073709551616
    omega
theorem product_w (u v : Int) : stats_product.f (wd u).1 (wd u).2 (wd v).1 (wd v).2 = some (wd (u * v)) := by
  unfold stats_product.f
  rw [wMul_f (wd_in u).2 (wd_in v).2]
  simp only [Option.bind_some]
  have e : wd (u * v) = wd (wv (wd u).1 (wd u).2 * wv (wd v).1 (wd v).2) := by
    rw [wv_wd, wv_wd]
    exact wd_mod (mod_mul u v _).symm
  rw [e]
  generalize (wd u).1 = a1
  generalize (wd u).2 = a0
  generalize (wd v).1 = b1
  generalize (wd v).2 = b0
  have hx : wv a1 a0 * wv b1 b0 = a0 * b0 + (a1 * b0 + a0 * b1) * 18446744073709551616 + a1 * b1 * 340282366920938463463374607431768211456 := by
    unfold wv
    simp only [Int.add_mul, Int.mul_add]
    have f1 : a1 * 18446744073709551616 * (b1 * 18446744073709551616) = a1 * b1 * 340282366920938463463374607431768211456 := by
      rw [Int.mul_assoc, Int.mul_left_comm 18446744073709551616 b1, ← Int.mul_assoc]
      rfl
    have f2 : a1 * 18446744073709551616 * b0 = a1 * b0 * 18446744073709551616 := by rw [Int.mul_assoc, Int.mul_comm 18446744073709551616 b0, ← Int.mul_assoc]
    have f3 : a0 * (b1 * 18446744073709551616) = a0 * b1 * 18446744073709551616 := by rw [← Int.mul_assoc]
    rw [f1, f2, f3]
    omega
  rw [hx, IntKind.wrap_u64, IntKind.wrap_u64, IntKind.wrap_u64, IntKind.wrap_u64]
  generalize a0 * b0 = p
  generalize a1 * b0 = q
  generalize a0 * b1 = r
  generalize a1 * b1 = s
  simp only [wd, Option.some.injEq, Prod.mk.injEq]
  omega
/-- A number by 2^128 that counts as below 0. -/
def negB (u : Int) : Bool := decide (170141183460469231731687303715884105728 ≤ u % 340282366920938463463374607431768211456)
theorem and_top {x : Int} (h : W64 x) : (Go.bits .and .u64 x 9223372036854775808 = 0) ↔ x < 9223372036854775808 := by
  obtain ⟨h0, h1⟩ := h
  obtain ⟨n, rfl⟩ := Int.eq_ofNat_of_zero_le h0
  have e := bits_and_u64_nat n 9223372036854775808 (by omega) (by decide)
  rw [show ((9223372036854775808 : Nat) : Int) = 9223372036854775808 from rfl] at e
  have d1 : (n &&& 9223372036854775808) / 9223372036854775808 = n / 9223372036854775808 % 2 := by
    have := Nat.and_div_two_pow (a := n) (b := 2 ^ 63) (n := 63)
    rw [show (2 : Nat) ^ 63 = 9223372036854775808 from rfl, show 9223372036854775808 / 9223372036854775808 = 1 from rfl, Nat.and_one_is_mod] at this
    exact this
  have d2 : (n &&& 9223372036854775808) % 9223372036854775808 = 0 := by
    have := Nat.and_mod_two_pow (a := n) (b := 2 ^ 63) (n := 63)
    rw [show (2 : Nat) ^ 63 = 9223372036854775808 from rfl, show 9223372036854775808 % 9223372036854775808 = 0 from rfl, Nat.and_zero] at this
    exact this
  rw [e]
  generalize n &&& 9223372036854775808 = m at *
  constructor
  · intro hm; omega
  · intro hm; omega
theorem signed_w (u : Int) : stats_signed.f (wd u).1 (wd u).2 = some (if negB u = true then ((wd (-u)).1, (wd (-u)).2, true) else ((wd u).1, (wd u).2, false)) := by
  unfold stats_signed.f
  have ht := and_top (wd_in u).1
  have hn : negB u = true ↔ ¬ (wd u).1 < 9223372036854775808 := by
    unfold negB
    rw [decide_eq_true_eq]
    simp only [wd]
    omega
  by_cases h : (wd u).1 < 9223372036854775808
  · rw [if_pos (ht.2 h), if_neg (by rw [hn]; exact fun x => x h)]
  · rw [if_neg (fun x => h (ht.1 x)), neg_w, if_pos (hn.2 h)]
    rfl
/-- A sum without its sign. -/
def resS (u : Int) : Int × Int × Bool := if negB u = true then ((wd (-u)).1, (wd (-u)).2, true) else ((wd u).1, (wd u).2, false)
theorem signed_r (u : Int) : stats_signed.f (wd u).1 (wd u).2 = some (resS u) := signed_w u
/-- A list rises. -/
def risesB : List Int → Bool
  | a :: b :: l => decide (a < b) && risesB (b :: l)
  | _ => true
theorem risesB_iff : ∀ l : List Int, risesB l = true ↔ ∀ j, 1 ≤ j → j < l.length → l.getD (j - 1) 0 < l.getD j 0
  | [] => by simp [risesB]
  | [a] => by simp [risesB]; intro j h1 h2; omega
  | a :: b :: l => by
    simp only [risesB, Bool.and_eq_true, decide_eq_true_eq]
    rw [risesB_iff (b :: l)]
    constructor
    · rintro ⟨h0, h⟩ j h1 h2
      match j, h1 with
      | 1, _ => simpa using h0
      | j + 2, _ =>
        have := h (j + 1) (by omega) (by simpa using h2)
        simpa using this
    · intro h
      refine ⟨by simpa using h 1 (by omega) (by simp), fun j h1 h2 => ?_⟩
      match j, h1 with
      | j + 1, _ =>
        have := h (j + 2) (by omega) (by simpa using h2)
        simpa using this

def boundsB (lo hi : Int) : Bool := decide (-1099511627776 ≤ lo ∧ hi ≤ 1099511627776 ∧ lo ≤ hi ∧ hi - lo < 1099511627776)
/-- What a plan's check answers. -/
def soundE (lo hi most : Int) (es : List Int) : Int :=
  if boundsB lo hi = true then (if most < 1 ∨ most > 65536 then 9 else if risesB es = true ∧ es.length ≤ 64 then 0 else 10) else 4

theorem sound0 {lo hi most : Int} {es : List Int} (h : soundE lo hi most es = 0) : -1099511627776 ≤ lo ∧ hi ≤ 1099511627776 ∧ lo ≤ hi ∧ hi - lo < 1099511627776 ∧ 1 ≤ most ∧ most ≤ 65536 ∧ risesB es = true ∧ es.length ≤ 64 := by
  unfold soundE at h
  split at h
  · rename_i hb
    split at h
    · simp at h
    · split at h
      · rename_i h1 h2
        have := of_decide_eq_true hb
        obtain ⟨h3, h4⟩ := h2
        exact ⟨by omega, by omega, by omega, by omega, by omega, by omega, h3, h4⟩
      · simp at h
  · simp at h

theorem bounds_f (lo hi most : Int) (es : List Int) (h1 : -9223372036854775808 ≤ lo ∧ lo ≤ 9223372036854775807) (h2 : -9223372036854775808 ≤ hi ∧ hi ≤ 9223372036854775807) : clamp_plan_bounds.f lo hi most es = some (boundsB lo hi) := by
  unfold clamp_plan_bounds.f boundsB
  by_cases a : lo ≥ -1099511627776
  · by_cases b : hi ≤ 1099511627776
    · by_cases c : lo ≤ hi
      · rw [if_pos a, if_pos b, if_pos c, w64 (by omega)]
        simp [a, b, c]
      · rw [if_pos a, if_pos b, if_neg c]
        simp [c]
    · rw [if_pos a, if_neg b]
      simp [b]
  · rw [if_neg a]
    have : ¬ (-1099511627776 ≤ lo) := a
    simp [this]

theorem rises_step {es : List Int} {i : Nat} (h1 : 1 ≤ i) (h : i < es.length) : risesB (es.drop (i - 1)) = (decide (es.getD (i - 1) 0 < es.getD i 0) && risesB (es.drop i)) := by
  have h0 : i - 1 < es.length := by omega
  rw [List.drop_eq_getElem_cons h0, show i - 1 + 1 = i by omega, List.drop_eq_getElem_cons h]
  simp [risesB, List.getD, List.getElem?_eq_getElem h0, List.getElem?_eq_getElem h]
theorem rises_end {es : List Int} {i : Nat} (h : ¬ i < es.length) : risesB (es.drop (i - 1)) = true := by
  have h0 : (es.drop (i - 1)).length ≤ 1 := by rw [List.length_drop]; omega
  match es.drop (i - 1), h0 with
  | [], _ => rfl
  | [a], _ => rfl
theorem rising_l0 (lo hi most : Int) (es : List Int) (hl : es.length ≤ 9223372036854775806) : ∀ d i : Nat, es.length - i = d → 1 ≤ i →
    Ev (fun k => clamp_plan_rising.l0 k (i : Int) lo hi most es) (risesB (es.drop (i - 1)) && decide (es.length ≤ 64))
  | d, i, hd, h1 => by
    refine Ev.succ ?_
    simp only [clamp_plan_rising.l0]
    by_cases h : i < es.length
    · have e1 : wrap64 ((i : Int) - 1) = ((i - 1 : Nat) : Int) := by rw [w64 (by omega)]; omega
      have e2 : wrap64 ((i : Int) + 1) = ((i + 1 : Nat) : Int) := by rw [w64 (by omega)]; omega
      rw [e1, e2]
      simp only [rd_nat]
      refine Ev.pos (by omega) (Ev.pos (by omega) (Ev.pos (by omega) (Ev.pos (by omega) ?_)))
      rw [rises_step h1 h]
      by_cases hc : es.getD i 0 ≤ es.getD (i - 1) 0
      · refine Ev.pos hc (Ev.some_ ?_)
        rw [decide_eq_false (by omega)]; rfl
      · refine Ev.neg hc ?_
        rw [decide_eq_true (by omega), Bool.true_and]
        exact rising_l0 lo hi most es hl (d - 1) (i + 1) (by omega) (by omega)
    · refine Ev.neg (by omega) (Ev.some_ ?_)
      rw [rises_end h, Bool.true_and]
      exact decide_eq_decide.2 (by omega)
  termination_by d _ => d
  decreasing_by all_goals omega

theorem rising_f (lo hi most : Int) (es : List Int) (hl : es.length ≤ 9223372036854775806) : Ev (fun k => clamp_plan_rising.f k lo hi most es) (risesB es && decide (es.length ≤ 64)) :=
  rising_l0 lo hi most es hl _ 1 rfl (Nat.le_refl _)

theorem sound_f (lo hi most : Int) (es : List Int) (hl : es.length ≤ 9223372036854775806) (h1 : -9223372036854775808 ≤ lo ∧ lo ≤ 9223372036854775807) (h2 : -9223372036854775808 ≤ hi ∧ hi ≤ 9223372036854775807) :
    Ev (fun k => clamp_Sound.f k lo hi most es) (soundE lo hi most es) := by
  unfold clamp_Sound.f soundE
  refine Ev.bind0 (bounds_f lo hi most es h1 h2) ?_
  by_cases hb : boundsB lo hi = true
  · simp only [hb, if_true]
    by_cases hm : most < 1
    · simp only [hm, if_true, true_or]
      refine Ev.succ ?_
      simp only [clamp_Sound.j0, if_true]
      exact Ev.now _
    · simp only [hm, if_false, false_or]
      refine Ev.succ ?_
      simp only [clamp_Sound.j0, decide_eq_true_eq]
      refine Ev.if_ (fun h => ?_) (fun h => ?_)
      · rw [if_pos h]; exact Ev.now _
      · rw [if_neg h]
        refine Ev.bind (rising_f lo hi most es hl) ?_
        simp only [Bool.and_eq_true, decide_eq_true_eq]
        by_cases hr : risesB es = true ∧ es.length ≤ 64
        · simp only [hr, and_self, if_true]; exact Ev.now _
        · simp only [hr, if_false]; exact Ev.now _
  · simp only [hb, Bool.false_eq_true, if_false]
    exact Ev.now _

theorem refSound_l0 (lo hi most : Int) (es : List Int) (hl : es.length ≤ 64) : ∀ d i : Nat, es.length - i = d → 1 ≤ i →
    Ev (fun k => offertoryref09_Sound.l0 k (i : Int) lo hi most es) (if risesB (es.drop (i - 1)) = true then 0 else 10)
  | d, i, hd, h1 => by
    refine Ev.succ ?_
    simp only [offertoryref09_Sound.l0]
    by_cases h : i < es.length
    · have e1 : wrap64 ((i : Int) - 1) = ((i - 1 : Nat) : Int) := by rw [w64 (by omega)]; omega
      have e2 : wrap64 ((i : Int) + 1) = ((i + 1 : Nat) : Int) := by rw [w64 (by omega)]; omega
      rw [e1, e2]
      simp only [rd_nat]
      refine Ev.pos (by omega) (Ev.pos (by omega) (Ev.pos (by omega) (Ev.pos (by omega) ?_)))
      rw [rises_step h1 h]
      by_cases hc : es.getD (i - 1) 0 ≥ es.getD i 0
      · refine Ev.pos hc (Ev.some_ ?_)
        rw [decide_eq_false (by omega)]; rfl
      · refine Ev.neg hc ?_
        rw [decide_eq_true (by omega), Bool.true_and]
        exact refSound_l0 lo hi most es hl (d - 1) (i + 1) (by omega) (by omega)
    · refine Ev.neg (by omega) (Ev.some_ ?_)
      rw [rises_end h]; rfl
  termination_by d _ => d
  decreasing_by all_goals omega

theorem refSound_f (lo hi most : Int) (es : List Int) (h1 : -9223372036854775808 ≤ lo ∧ lo ≤ 9223372036854775807) (h2 : -9223372036854775808 ≤ hi ∧ hi ≤ 9223372036854775807) :
    Ev (fun k => offertoryref09_Sound.f k lo hi most es) (soundE lo hi most es) := by
  have hj1 : ∀ b, boundsB lo hi = true → ¬ most < 1 → b = decide (most > 65536) → Ev (fun k => offertoryref09_Sound.j1 k b lo hi most es) (soundE lo hi most es) := by
    intro b hb hm hb'
    subst hb'
    unfold soundE
    refine Ev.succ ?_
    simp only [offertoryref09_Sound.j1, decide_eq_true_eq, hb, if_true, hm, false_or]
    refine Ev.if_ (fun h => ?_) (fun h => ?_)
    · rw [if_pos h]; exact Ev.now _
    · rw [if_neg h]
      refine Ev.if_ (fun h3 => ?_) (fun h3 => ?_)
      · rw [if_neg (by omega)]; exact Ev.now _
      · have h4 := refSound_l0 lo hi most es (by omega) _ 1 rfl (Nat.le_refl _)
        have h5 : es.length ≤ 64 := by omega
        simp only [h5, and_true]
        simpa using h4
  have hj0 : ∀ b, boundsB lo hi = !b → Ev (fun k => offertoryref09_Sound.j0 k b lo hi most es) (soundE lo hi most es) := by
    intro b hb
    refine Ev.succ ?_
    simp only [offertoryref09_Sound.j0]
    cases b with
    | true =>
      simp only [if_true]
      refine Ev.some_ ?_
      unfold soundE
      rw [hb]; rfl
    | false =>
      simp only [Bool.false_eq_true, if_false]
      refine Ev.if_ (fun h => ?_) (fun h => ?_)
      · refine Ev.succ ?_
        simp only [offertoryref09_Sound.j1, if_true]
        refine Ev.some_ ?_
        unfold soundE
        rw [hb]
        simp [h]
      · exact hj1 _ (by rw [hb]; rfl) h rfl
  unfold offertoryref09_Sound.f
  refine Ev.if_ (fun h => hj0 _ ?_) (fun a => Ev.if_ (fun h => hj0 _ ?_) (fun b => Ev.if_ (fun h => hj0 _ ?_) (fun c => hj0 _ ?_)))
  · have : ¬ (-1099511627776 ≤ lo) := by omega
    simp [boundsB, this]
  · have : ¬ (hi ≤ 1099511627776) := by omega
    simp [boundsB, this]
  · have : ¬ (lo ≤ hi) := by omega
    simp [boundsB, this]
  · rw [w64 (by omega)]
    unfold boundsB
    rw [Bool.eq_iff_iff]
    simp only [decide_eq_true_eq, Bool.not_eq_true', decide_eq_false_iff_not]
    omega

/-- What a clamped sample is. -/
def clampV (lo hi x : Int) : Int := mn (mx x lo) hi
theorem clampV_eq {lo hi : Int} (h : lo ≤ hi) (x : Int) : clampV lo hi x = if x < lo then lo else if x > hi then hi else x := by
  unfold clampV mn mx
  split <;> split <;> (try split) <;> (try split) <;> (try split) <;> omega
theorem clampV_in {lo hi : Int} (h : lo ≤ hi) (x : Int) : lo ≤ clampV lo hi x ∧ clampV lo hi x ≤ hi := by
  rw [clampV_eq h]; split <;> (try split) <;> omega
theorem clampV_id {lo hi x : Int} (h1 : lo ≤ x) (h2 : x ≤ hi) : clampV lo hi x = x := by
  rw [clampV_eq (by omega)]; split <;> (try split) <;> omega

theorem clamp_f (lo hi most : Int) (es : List Int) (x : Int) (hl : es.length ≤ 9223372036854775806) (h1 : -9223372036854775808 ≤ lo ∧ lo ≤ 9223372036854775807) (h2 : -9223372036854775808 ≤ hi ∧ hi ≤ 9223372036854775807) :
    Ev (fun k => clamp_Clamp.f k lo hi most es x) (if soundE lo hi most es = 0 then (clampV lo hi x, 0) else (0, soundE lo hi most es)) := by
  unfold clamp_Clamp.f
  refine Ev.bind (sound_f lo hi most es hl h1 h2) ?_
  refine Ev.if_ (fun h => ?_) (fun h => ?_)
  · rw [if_pos h]; exact Ev.now _
  · rw [if_neg h]; exact Ev.now _

/-- The bits of a number. -/
def IsLen (x : Int) (n : Int) : Prop := 0 ≤ n ∧ x < 2 ^ n.toNat ∧ (n = 0 ∨ 2 ^ (n - 1).toNat ≤ x)
theorem IsLen.unique {x a b : Int} (ha : IsLen x a) (hb : IsLen x b) : a = b := by
  obtain ⟨a0, a1, a2⟩ := ha
  obtain ⟨b0, b1, b2⟩ := hb
  have key : ∀ a b : Int, 0 ≤ a → 0 ≤ b → x < 2 ^ a.toNat → (b = 0 ∨ 2 ^ (b - 1).toNat ≤ x) → b ≤ a := by
    intro a b ha hb h1 h2
    rcases h2 with h2 | h2
    · omega
    · rcases Int.lt_or_le a b with h | h
      · exfalso
        have h3 : (2 : Int) ^ a.toNat ≤ 2 ^ (b - 1).toNat := by
          have : (2 : Nat) ^ a.toNat ≤ 2 ^ (b - 1).toNat := Nat.pow_le_pow_right (by decide) (by omega)
          exact_mod_cast this
        omega
      · exact h
  have := key a b a0 b0 a1 b2
  have := key b a b0 a0 b1 a2
  omega
theorem two_le {a b : Nat} (h : a ≤ b) : (2 : Int) ^ a ≤ 2 ^ b := by
  have : (2 : Nat) ^ a ≤ 2 ^ b := Nat.pow_le_pow_right (by decide) h
  exact_mod_cast this
theorem isLen_up {x n : Int} {s : Nat} (h : IsLen (x / 2 ^ s) n) (hx : 0 ≤ x) (h1 : 1 ≤ n) : IsLen x (n + s) := by
  obtain ⟨h0, ha, hb⟩ := h
  have hp : (0 : Int) < 2 ^ s := by
    have : (0 : Nat) < 2 ^ s := Nat.pow_pos (by decide)
    exact_mod_cast this
  refine ⟨by omega, ?_, Or.inr ?_⟩
  · rw [show (n + (s : Int)).toNat = n.toNat + s by omega, Int.pow_add]
    exact Int.lt_mul_of_ediv_lt hp ha
  · rcases hb with hb | hb
    · omega
    · rw [show (n + (s : Int) - 1).toNat = (n - 1).toNat + s by omega, Int.pow_add]
      exact (Int.le_ediv_iff_mul_le hp).1 hb
def tabB : ByteArray := (⟨#[0, 1, 2, 2, 3, 3, 3, 3, 4, 4, 4, 4, 4, 4, 4, 4, 5, 5, 5, 5, 5, 5, 5, 5, 5, 5, 5, 5, 5, 5, 5, 5, 6, 6, 6, 6, 6, 6, 6, 6, 6, 6, 6, 6, 6, 6, 6, 6, 6, 6, 6, 6, 6, 6, 6, 6, 6, 6, 6, 6, 6, 6, 6, 6, 7, 7, 7, 7, 7, 7, 7, 7, 7, 7, 7, 7, 7, 7, 7, 7, 7, 7, 7, 7, 7, 7, 7, 7, 7, 7, 7, 7, 7, 7, 7, 7, 7, 7, 7, 7, 7, 7, 7, 7, 7, 7, 7, 7, 7, 7, 7, 7, 7, 7, 7, 7, 7, 7, 7, 7, 7, 7, 7, 7, 7, 7, 7, 7, 8, 8, 8, 8, 8, 8, 8, 8, 8, 8, 8, 8, 8, 8, 8, 8, 8, 8, 8, 8, 8, 8, 8, 8, 8, 8, 8, 8, 8, 8, 8, 8, 8, 8, 8, 8, 8, 8, 8, 8, 8, 8, 8, 8, 8, 8, 8, 8, 8, 8, 8, 8, 8, 8, 8, 8, 8, 8, 8, 8, 8, 8, 8, 8, 8, 8, 8, 8, 8, 8, 8, 8, 8, 8, 8, 8, 8, 8, 8, 8, 8, 8, 8, 8, 8, 8, 8, 8, 8, 8, 8, 8, 8, 8, 8, 8, 8, 8, 8, 8, 8, 8, 8, 8, 8, 8, 8, 8, 8, 8, 8, 8, 8, 8, 8, 8, 8, 8, 8, 8, 8, 8, 8, 8, 8, 8, 8, 8]⟩ : ByteArray)
theorem tab_ok : ∀ v : Fin 256, 0 ≤ bt tabB (v : Nat) ∧ bt tabB (v : Nat) ≤ 8 ∧ ((v : Nat) : Int) < 2 ^ (bt tabB (v : Nat)).toNat ∧ (bt tabB (v : Nat) = 0 ∨ (2 : Int) ^ (bt tabB (v : Nat) - 1).toNat ≤ (v : Nat)) ∧ ((v : Nat) = 0 ∨ 1 ≤ bt tabB (v : Nat)) := by decide +kernel
theorem tab_len {v : Int} (h : 0 ≤ v ∧ v < 256) : IsLen v (bt tabB v) ∧ bt tabB v ≤ 8 ∧ (v = 0 ∨ 1 ≤ bt tabB v) := by
  obtain ⟨m, rfl⟩ : ∃ m : Nat, v = m := ⟨v.toNat, by omega⟩
  have := tab_ok ⟨m, by omega⟩
  obtain ⟨h0, h1, h2, h3, h4⟩ := this
  refine ⟨⟨h0, h2, h3⟩, h1, ?_⟩
  rcases h4 with h4 | h4
  · left; simpa using h4
  · right; exact h4
set_option maxRecDepth 100000 in
theorem j0_eq (k : Nat) (x s : Int) : bits_Len64.j0 (k + 1) x s = if x ≥ 65536 then (if (x / 65536) ≥ 256 then (if 0 ≤ (((x / 65536) / 256) % 256) then (if (((x / 65536) / 256) % 256) < 256 then (some (wrap64 ((wrap64 ((wrap64 (s + 16)) + 8)) + (wrap64 (bt tabB (((x / 65536) / 256) % 256)))))) else (none)) else (none)) else (if 0 ≤ ((x / 65536) % 256) then (if ((x / 65536) % 256) < 256 then (some (wrap64 ((wrap64 (s + 16)) + (wrap64 (bt tabB ((x / 65536) % 256)))))) else (none)) else (none))) else (if x ≥ 256 then (if 0 ≤ ((x / 256) % 256) then (if ((x / 256) % 256) < 256 then (some (wrap64 ((wrap64 (s + 8)) + (wrap64 (bt tabB ((x / 256) % 256)))))) else (none)) else (none)) else (if 0 ≤ (x % 256) then (if (x % 256) < 256 then (some (wrap64 (s + (wrap64 (bt tabB (x % 256)))))) else (none)) else (none))) := by rfl
theorem len_j0 (x s : Int) (h0 : 0 ≤ x) (h1 : x < 4294967296) (hs : 0 ≤ s ∧ s ≤ 64) : ∃ n, IsLen x n ∧ n ≤ 32 ∧ (x = 0 ∨ 1 ≤ n) ∧ Ev (fun k => bits_Len64.j0 k x s) (s + n) := by
  have fold : ∀ (e : Int) (h : 0 ≤ e ∧ e < 256) (r : Int), ((fun _ : Nat => if 0 ≤ e then if e < 256 then some r else none else none)) = (fun _ : Nat => some r) := by
    intro e h r
    rw [if_pos h.1, if_pos h.2]
  by_cases ha : x ≥ 65536
  · by_cases hb : x / 65536 ≥ 256
    · obtain ⟨ht, h8, h9⟩ := tab_len (v := x / 65536 / 256) (by omega)
      have hge : 1 ≤ bt tabB (x / 65536 / 256) := by rcases h9 with h9 | h9 <;> omega
      refine ⟨bt tabB (x / 65536 / 256) + 8 + 16, ?_, by omega, by omega, ?_⟩
      · have h2 := isLen_up (s := 8) ht (by omega) hge
        exact isLen_up (s := 16) h2 h0 (by omega)
      · refine Ev.succ ?_
        simp only [j0_eq]
        refine Ev.pos ha (Ev.pos hb ?_)
        rw [show x / 65536 / 256 % 256 = x / 65536 / 256 by omega]
        rw [fold _ (by omega)]
        refine Ev.some_ ?_
        have := ht.1
        rw [w64 (x := s + 16) (by omega), w64 (x := s + 16 + 8) (by omega), w64 (x := bt tabB (x / 65536 / 256)) (by omega), w64 (by omega)]
        omega
    · obtain ⟨ht, h8, h9⟩ := tab_len (v := x / 65536) (by omega)
      have hge : 1 ≤ bt tabB (x / 65536) := by rcases h9 with h9 | h9 <;> omega
      refine ⟨bt tabB (x / 65536) + 16, isLen_up (s := 16) ht h0 hge, by omega, by omega, ?_⟩
      refine Ev.succ ?_
      simp only [j0_eq]
      refine Ev.pos ha (Ev.neg hb ?_)
      rw [show x / 65536 % 256 = x / 65536 by omega]
      rw [fold _ (by omega)]
      refine Ev.some_ ?_
      have := ht.1
      rw [w64 (x := s + 16) (by omega), w64 (x := bt tabB (x / 65536)) (by omega), w64 (by omega)]
      omega
  · by_cases hb : x ≥ 256
    · obtain ⟨ht, h8, h9⟩ := tab_len (v := x / 256) (by omega)
      have hge : 1 ≤ bt tabB (x / 256) := by rcases h9 with h9 | h9 <;> omega
      refine ⟨bt tabB (x / 256) + 8, isLen_up (s := 8) ht h0 hge, by omega, by omega, ?_⟩
      refine Ev.succ ?_
      simp only [j0_eq]
      refine Ev.neg ha (Ev.pos hb ?_)
      rw [show x / 256 % 256 = x / 256 by omega]
      rw [fold _ (by omega)]
      refine Ev.some_ ?_
      have := ht.1
      rw [w64 (x := s + 8) (by omega), w64 (x := bt tabB (x / 256)) (by omega), w64 (by omega)]
      omega
    · obtain ⟨ht, h8, h9⟩ := tab_len (v := x) (by omega)
      refine ⟨bt tabB x, ht, by omega, by omega, ?_⟩
      refine Ev.succ ?_
      simp only [j0_eq]
      refine Ev.neg ha (Ev.neg hb ?_)
      rw [show x % 256 = x by omega]
      rw [fold _ (by omega)]
      refine Ev.some_ ?_
      have := ht.1
      rw [w64 (x := bt tabB x) (by omega), w64 (by omega)]
theorem len_f (x : Int) (h : 0 ≤ x ∧ x ≤ 18446744073709551615) : ∃ n, IsLen x n ∧ n ≤ 64 ∧ (x = 0 ∨ 1 ≤ n) ∧ Ev (fun k => bits_Len64.f k x) n := by
  unfold bits_Len64.f
  by_cases hx : x ≥ 4294967296
  · obtain ⟨n, hn, h1, h2, h3⟩ := len_j0 (x / 4294967296) 32 (by omega) (by omega) (by omega)
    refine ⟨n + (32 : Nat), isLen_up (s := 32) hn h.1 (by omega), by omega, by omega, Ev.pos hx ?_⟩
    rw [show n + ((32 : Nat) : Int) = 32 + n by omega]
    exact h3
  · obtain ⟨n, hn, h1, h2, h3⟩ := len_j0 x 0 (by omega) (by omega) (by omega)
    refine ⟨n, hn, by omega, h2, Ev.neg hx ?_⟩
    rw [Int.zero_add] at h3
    exact h3

/-- How many bits a place of a plan has: the least number from 1 on whose power of two is beyond the bounds' difference. -/
def IsBits (lo hi n : Int) : Prop := 1 ≤ n ∧ hi - lo < 2 ^ n.toNat ∧ (n = 1 ∨ 2 ^ (n - 1).toNat ≤ hi - lo)
theorem IsBits.unique {lo hi a b : Int} (ha : IsBits lo hi a) (hb : IsBits lo hi b) : a = b := by
  obtain ⟨a0, a1, a2⟩ := ha
  obtain ⟨b0, b1, b2⟩ := hb
  have key : ∀ a b : Int, 1 ≤ a → 1 ≤ b → hi - lo < 2 ^ a.toNat → (b = 1 ∨ 2 ^ (b - 1).toNat ≤ hi - lo) → b ≤ a := by
    intro a b ha hb h1 h2
    rcases h2 with h2 | h2
    · omega
    · rcases Int.lt_or_le a b with h | h
      · exfalso
        have h3 := two_le (a := a.toNat) (b := (b - 1).toNat) (by omega)
        omega
      · exact h
  have := key a b a0 b0 a1 b2
  have := key b a b0 a0 b1 a2
  omega
theorem IsBits.le40 {lo hi n : Int} (h : IsBits lo hi n) (hd : hi - lo < 1099511627776) : n ≤ 40 := by
  obtain ⟨h0, h1, h2⟩ := h
  rcases h2 with h2 | h2
  · omega
  · rcases Int.lt_or_le 40 n with h3 | h3
    · exfalso
      have h4 := two_le (a := 40) (b := (n - 1).toNat) (by omega)
      have h5 : (2 : Int) ^ 40 = 1099511627776 := by decide
      omega
    · exact h3
theorem isBits_exists {lo hi : Int} (h0 : lo ≤ hi) (hd : hi - lo < 1099511627776) : ∃ n, IsBits lo hi n := by
  obtain ⟨n, hn, h1, h2, _⟩ := len_f (hi - lo) (by omega)
  obtain ⟨a, b, c⟩ := hn
  by_cases h3 : n = 0
  · subst h3
    have hb : hi - lo < 1 := by simpa using b
    exact ⟨1, by omega, by simp; omega, Or.inl rfl⟩
  · refine ⟨n, by omega, b, ?_⟩
    rcases c with c | c
    · omega
    · exact Or.inr c

theorem bits_f (lo hi most n : Int) (es : List Int) (hn : soundE lo hi most es = 0 → IsBits lo hi n) (hl : es.length ≤ 9223372036854775806) (h1 : -9223372036854775808 ≤ lo ∧ lo ≤ 9223372036854775807) (h2 : -9223372036854775808 ≤ hi ∧ hi ≤ 9223372036854775807) :
    Ev (fun k => clamp_Bits.f k lo hi most es) (if soundE lo hi most es = 0 then (n, 0) else (0, soundE lo hi most es)) := by
  unfold clamp_Bits.f
  refine Ev.bind (sound_f lo hi most es hl h1 h2) ?_
  refine Ev.if_ (fun h => ?_) (fun h => ?_)
  · rw [if_pos h]
    obtain ⟨a, b, c, d, _⟩ := sound0 h
    rw [w64 (by omega), wu64 (by omega)]
    obtain ⟨m, hm, h3, h4, h5⟩ := len_f (hi - lo) (by omega)
    refine Ev.bind h5 (Ev.some_ ?_)
    have e : IsBits lo hi (mx m 1) := by
      obtain ⟨m0, m1, m2⟩ := hm
      unfold mx
      split
      · have : m = 0 := by omega
        subst this
        have hb : hi - lo < 1 := by simpa using m1
        exact ⟨by omega, by simp; omega, Or.inl rfl⟩
      · refine ⟨by omega, m1, ?_⟩
        rcases m2 with m2 | m2
        · omega
        · exact Or.inr m2
    rw [e.unique (hn h)]
  · rw [if_neg h]; exact Ev.now _

theorem shl_one {x : Int} (h : 0 ≤ x ∧ x ≤ 41) : shl .i64 1 x = 2 ^ x.toNat := by
  unfold shl
  have h1 : min x.toNat IntKind.i64.bits = x.toNat := by simp [IntKind.bits]; omega
  rw [h1, Int.one_mul, IntKind.wrap_i64]
  have h2 := two_le (a := x.toNat) (b := 41) (by omega)
  have h3 : (2 : Int) ^ 41 = 2199023255552 := by decide
  have h4 : (0 : Int) ≤ 2 ^ x.toNat := by
    have : (0 : Nat) ≤ 2 ^ x.toNat := Nat.zero_le _
    exact_mod_cast this
  omega
theorem refBits_l0 (lo hi most n : Int) (es : List Int) (hn : IsBits lo hi n) (h0 : lo ≤ hi) (hd : hi - lo < 1099511627776) : ∀ (d : Nat) (i : Int), n - i = d → 1 ≤ i →
    Ev (fun k => offertoryref09_Bits.l0 k i lo hi most es) n
  | d, i, he, h1 => by
    have h40 := hn.le40 hd
    obtain ⟨n0, n1, n2⟩ := hn
    refine Ev.succ ?_
    simp only [offertoryref09_Bits.l0]
    rw [wu64 (by omega), w64 (x := hi - lo) (by omega), w64 (x := i + 1) (by omega), shl_one (by omega)]
    refine Ev.pos (by omega) ?_
    by_cases hc : i = n
    · subst hc
      exact Ev.neg (by omega) (Ev.now _)
    · have h3 : (2 : Int) ^ i.toNat ≤ hi - lo := by
        rcases n2 with n2 | n2
        · omega
        · have := two_le (a := i.toNat) (b := (n - 1).toNat) (by omega)
          omega
      exact Ev.pos h3 (refBits_l0 lo hi most n es ⟨n0, n1, n2⟩ h0 hd (d - 1) (i + 1) (by omega) (by omega))
  termination_by d _ => d
  decreasing_by all_goals omega
theorem refBits_f (lo hi most n : Int) (es : List Int) (hn : IsBits lo hi n) (h0 : lo ≤ hi) (hd : hi - lo < 1099511627776) : Ev (fun k => offertoryref09_Bits.f k lo hi most es) n := by
  have := hn.1
  exact refBits_l0 lo hi most n es hn h0 hd (n - 1).toNat 1 (by omega) (by omega)
theorem two_pos (n : Nat) : (0 : Int) < 2 ^ n := by
  have : (0 : Nat) < 2 ^ n := Nat.pow_pos (by decide)
  exact_mod_cast this
theorem shl_eq {x y : Int} (h0 : 0 ≤ y) (h1 : y ≤ 64) : shl .u64 x y = (x * 2 ^ y.toNat) % 18446744073709551616 := by
  unfold shl
  rw [IntKind.wrap_u64, show min y.toNat IntKind.u64.bits = y.toNat by simp [IntKind.bits]; omega]
theorem shr_eq {x y : Int} (h0 : 0 ≤ y) (h1 : y ≤ 64) : shr .u64 x y = x / 2 ^ y.toNat := by
  unfold shr
  rw [show min y.toNat IntKind.u64.bits = y.toNat by simp [IntKind.bits]; omega]
/-- 'or' of a multiple of a power of two and what is below it. -/
theorem or_pow {x y : Int} {n : Nat} (h0 : 0 ≤ x) (h1 : x * 2 ^ n < 18446744073709551616) (h2 : 0 ≤ y) (h3 : y < 2 ^ n) (h4 : y < 18446744073709551616) : Go.bits .or .u64 (x * 2 ^ n) y = x * 2 ^ n + y := by
  obtain ⟨a, rfl⟩ := Int.eq_ofNat_of_zero_le h0
  obtain ⟨b, rfl⟩ := Int.eq_ofNat_of_zero_le h2
  have e : (a : Int) * 2 ^ n = ((a * 2 ^ n : Nat) : Int) := by rw [Int.natCast_mul, Int.natCast_pow]; rfl
  have h3' : b < 2 ^ n := by
    have : ((b : Nat) : Int) < ((2 ^ n : Nat) : Int) := by rw [Int.natCast_pow]; exact h3
    exact_mod_cast this
  rw [e] at h1 ⊢
  rw [bits_or_u64_nat _ _ (Int.ofNat_lt.1 h1) (by omega), ← Nat.shiftLeft_eq, ← Nat.shiftLeft_add_eq_or_of_lt h3', Nat.shiftLeft_eq, Int.natCast_add]
theorem pow_split {n m : Nat} (h : n + m = 64) : (2 : Int) ^ n * 2 ^ m = 18446744073709551616 := by
  rw [← Int.pow_add, h]; rfl
/-- What the program's Shift answers. -/
theorem wShift_f {hi lo n : Int} (a : W64 hi) (b : W64 lo) (h0 : 0 ≤ n) (h1 : n ≤ 128) : wide_Shift.f hi lo n = some (wd (wv hi lo * 2 ^ n.toNat)) := by
  obtain ⟨m, rfl⟩ := Int.eq_ofNat_of_zero_le h0
  rw [Int.toNat_natCast]
  unfold wide_Shift.f
  by_cases c1 : (m : Int) < 1
  · rw [if_pos c1]
    have : m = 0 := by omega
    subst this
    rw [Int.pow_zero, Int.mul_one, wd_wv a b]
  rw [if_neg c1]
  by_cases c2 : (m : Int) > 127
  · rw [if_pos c2]
    have : m = 128 := by omega
    subst this
    rw [show (2 : Int) ^ 128 = 340282366920938463463374607431768211456 from rfl]
    generalize wv hi lo = v
    simp only [wd, Option.some.injEq, Prod.mk.injEq]
    omega
  rw [if_neg c2]
  by_cases c3 : (m : Int) > 63
  · rw [if_pos c3, w64 (by omega), if_pos (by omega), shl_eq (by omega) (by omega)]
    rw [show ((m : Int) - 64).toNat = m - 64 by omega]
    have e : (2 : Int) ^ m = 2 ^ (m - 64) * 18446744073709551616 := by
      rw [show (18446744073709551616 : Int) = 2 ^ 64 from rfl, ← Int.pow_add, show m - 64 + 64 = m by omega]
    rw [e]
    generalize (2 : Int) ^ (m - 64) = q
    have e2 : wv hi lo * (q * 18446744073709551616) = lo * q * 18446744073709551616 + hi * q * 340282366920938463463374607431768211456 := by
      unfold wv
      rw [Int.add_mul]
      congr 1
      · rw [← Int.mul_assoc]
      · rw [Int.mul_assoc hi, Int.mul_comm 18446744073709551616 (q * 18446744073709551616), Int.mul_assoc q, ← Int.mul_assoc hi]
        rfl
    rw [e2]
    generalize lo * q = r
    generalize hi * q = s
    simp only [wd, Option.some.injEq, Prod.mk.injEq]
    omega
  rw [if_neg c3, if_pos (by omega), w64 (x := 64 - (m : Int)) (by omega), if_pos (by omega), shl_eq (by omega) (by omega), shl_eq (by omega) (by omega), shr_eq (by omega) (by omega)]
  rw [show ((m : Int)).toNat = m by omega, show (64 - (m : Int)).toNat = 64 - m by omega]
  have hs := pow_split (n := m) (m := 64 - m) (by omega)
  have hp := two_pos m
  have hq := two_pos (64 - m)
  have eh : hi * 2 ^ m % 18446744073709551616 = hi % 2 ^ (64 - m) * 2 ^ m := by
    rw [← hs, Int.mul_comm hi, Int.mul_emod_mul_of_pos _ _ hp, Int.mul_comm]
  have hlt : hi % 2 ^ (64 - m) < 2 ^ (64 - m) := Int.emod_lt_of_pos _ hq
  have hge : 0 ≤ hi % 2 ^ (64 - m) := Int.emod_nonneg _ (by omega)
  have el : lo / 2 ^ (64 - m) < 2 ^ m := by
    refine Int.ediv_lt_of_lt_mul hq ?_
    rw [hs]
    have := b.2
    omega
  have el0 : 0 ≤ lo / 2 ^ (64 - m) := Int.ediv_nonneg b.1 (by omega)
  have el1 : lo / 2 ^ (64 - m) ≤ lo := Int.ediv_le_self _ b.1
  have em : 0 ≤ hi * 2 ^ m % 18446744073709551616 ∧ hi * 2 ^ m % 18446744073709551616 < 18446744073709551616 := by omega
  rw [eh] at em ⊢
  rw [or_pow hge em.2 el0 el (by have := b.2; omega)]
  have e3 : lo * 2 ^ m / 18446744073709551616 = lo / 2 ^ (64 - m) := by
    rw [← hs, Int.mul_comm (2 ^ m) (2 ^ (64 - m)), Int.mul_ediv_mul_of_pos_left _ _ hp]
  have e4 : wv hi lo * 2 ^ m = lo * 2 ^ m + hi * 2 ^ m * 18446744073709551616 := by
    unfold wv
    rw [Int.add_mul, Int.mul_assoc hi, Int.mul_comm 18446744073709551616, ← Int.mul_assoc]
  rw [e4, ← e3, ← eh]
  have hfit : hi * 2 ^ m % 18446744073709551616 + lo * 2 ^ m / 18446744073709551616 < 18446744073709551616 := by
    rw [eh, e3]
    have h5 : hi % 2 ^ (64 - m) * 2 ^ m + 2 ^ m ≤ 2 ^ (64 - m) * 2 ^ m := by
      have := Int.mul_le_mul_of_nonneg_right (show hi % 2 ^ (64 - m) + 1 ≤ 2 ^ (64 - m) by omega) (Int.le_of_lt hp)
      rw [Int.add_mul, Int.one_mul] at this
      exact this
    rw [Int.mul_comm (2 ^ (64 - m)) (2 ^ m), hs] at h5
    omega
  generalize hi * 2 ^ m = x at *
  generalize lo * 2 ^ m = y at *
  simp only [wd, Option.some.injEq, Prod.mk.injEq]
  omega
theorem rises_lt {es : List Int} (h : risesB es = true) : ∀ d s t, t - s = d → s < t → t < es.length → es.getD s 0 < es.getD t 0
  | d, s, t, hd, h1, h2 => by
    have hs := (risesB_iff es).1 h t (by omega) h2
    by_cases h3 : s = t - 1
    · subst h3; exact hs
    · have := rises_lt h (d - 1) s (t - 1) (by omega) (by omega) (by omega)
      omega
  termination_by d _ _ => d
  decreasing_by all_goals omega

/-- The bin of a number: how many edges lie at or below it, ahead of the first one that doesn't. -/
def IsBin (es : List Int) (y : Int) (n : Nat) : Prop := n ≤ es.length ∧ (∀ j, j < n → es.getD j 0 ≤ y) ∧ (n < es.length → y < es.getD n 0)
theorem IsBin.unique {es : List Int} {y : Int} {n m : Nat} (h : IsBin es y n) (h' : IsBin es y m) : n = m := by
  obtain ⟨a, b, c⟩ := h
  obtain ⟨a', b', c'⟩ := h'
  rcases Nat.lt_trichotomy n m with h1 | h1 | h1
  · have := b' n h1; have := c (by omega); omega
  · exact h1
  · have := b m h1; have := c' (by omega); omega
def binN (es : List Int) (y : Int) : Nat := (es.takeWhile (fun e => decide (e ≤ y))).length
theorem binN_is : ∀ (es : List Int) (y : Int), IsBin es y (binN es y)
  | [], y => ⟨Nat.le_refl _, fun j h => by simp [binN] at h, fun h => by simp [binN] at h⟩
  | e :: es, y => by
    by_cases h : e ≤ y
    · have e1 : binN (e :: es) y = binN es y + 1 := by simp [binN, List.takeWhile, h]
      obtain ⟨a, b, c⟩ := binN_is es y
      rw [e1]
      refine ⟨by simpa using a, fun j hj => ?_, fun hn => ?_⟩
      · cases j with
        | zero => simpa using h
        | succ j => simpa using b j (by omega)
      · simpa using c (by simpa using hn)
    · have e1 : binN (e :: es) y = 0 := by simp [binN, List.takeWhile, h]
      rw [e1]
      exact ⟨Nat.zero_le _, fun j hj => by omega, fun _ => by simp; omega⟩
theorem binN_le (es : List Int) (y : Int) : binN es y ≤ es.length := (binN_is es y).1
theorem binN_mono {es : List Int} {x y : Int} (h : x ≤ y) : binN es x ≤ binN es y := by
  obtain ⟨a, b, c⟩ := binN_is es x
  obtain ⟨a', b', c'⟩ := binN_is es y
  rcases Nat.lt_or_ge (binN es y) (binN es x) with h1 | h1
  · have := b _ h1; have := c' (by omega); omega
  · exact h1

theorem less_f (a b : Int) : cmp_Less_int.f a b = some (decide (a < b)) := by
  unfold cmp_Less_int.f cmp_isNaN_int.f
  simp
theorem half {i j : Nat} (h : j ≤ 1000000) (hij : i ≤ j) : wrap64 (IntKind.u64.wrap (wrap64 ((i : Int) + (j : Int))) / 2) = (((i + j) / 2 : Nat) : Int) := by
  rw [w64 (x := (i : Int) + j) (by omega), wu64 (by omega), w64 (by omega)]
  omega
theorem search_l0 (es : List Int) (y : Int) (hr : risesB es = true) (hl : es.length ≤ 64) : ∀ (d i j : Nat), j - i = d → i ≤ j → j ≤ es.length → (∀ t, t < i → es.getD t 0 < y) → (∀ t, j ≤ t → t < es.length → y ≤ es.getD t 0) →
    ∃ n b, Ev (fun k => slices_BinarySearch_int_int.l0 k es y (es.length : Int) (i : Int) (j : Int)) ((n : Nat), b) ∧ n ≤ es.length ∧ binN es y = if b = true then n + 1 else n
  | d, i, j, hd, hij, hj, hlo, hhi => by
    by_cases h : i < j
    · have hh := half (i := i) (j := j) (by omega) (by omega)
      have hm : (i + j) / 2 < j := by omega
      have hm2 : i ≤ (i + j) / 2 := by omega
      by_cases hc : es.getD ((i + j) / 2) 0 < y
      · obtain ⟨n, b, hev, hn, hb⟩ := search_l0 es y hr hl (j - ((i + j) / 2 + 1)) ((i + j) / 2 + 1) j rfl (by omega) hj (fun t ht => by
          by_cases h3 : t = (i + j) / 2
          · subst h3; exact hc
          · have := rises_lt hr _ t ((i + j) / 2) rfl (by omega) (by omega)
            omega) hhi
        refine ⟨n, b, Ev.succ ?_, hn, hb⟩
        simp only [slices_BinarySearch_int_int.l0, hh, rd_nat]
        refine Ev.pos (by omega) (Ev.pos (by omega) (Ev.pos (by omega) (Ev.bind0 (less_f _ _) ?_)))
        refine Ev.pos (decide_eq_true hc) ?_
        rw [w64 (by omega)]
        exact hev
      · obtain ⟨n, b, hev, hn, hb⟩ := search_l0 es y hr hl ((i + j) / 2 - i) i ((i + j) / 2) rfl hm2 (by omega) hlo (fun t ht1 ht2 => by
          by_cases h3 : t = (i + j) / 2
          · subst h3; omega
          · have := rises_lt hr _ ((i + j) / 2) t rfl (by omega) ht2
            omega)
        refine ⟨n, b, Ev.succ ?_, hn, hb⟩
        simp only [slices_BinarySearch_int_int.l0, hh, rd_nat]
        refine Ev.pos (by omega) (Ev.pos (by omega) (Ev.pos (by omega) (Ev.bind0 (less_f _ _) ?_)))
        refine Ev.neg (by simpa using hc) hev
    · have hij' : i = j := by omega
      subst hij'
      by_cases h1 : i < es.length
      · have h2 := hhi i (Nat.le_refl _) h1
        by_cases h3 : es.getD i 0 = y
        · refine ⟨i, true, Ev.succ ?_, by omega, ?_⟩
          · simp only [slices_BinarySearch_int_int.l0, rd_nat]
            exact Ev.neg (by omega) (Ev.pos (by omega) (Ev.pos (by omega) (Ev.pos (by omega) (Ev.pos h3 (Ev.now _)))))
          · simp only [if_true]
            refine (binN_is es y).unique ⟨by omega, fun t ht => ?_, fun ht => ?_⟩
            · by_cases h4 : t = i
              · subst h4; omega
              · have := hlo t (by omega); omega
            · have := rises_lt hr _ i (i + 1) rfl (by omega) ht
              omega
        · refine ⟨i, false, Ev.succ ?_, by omega, ?_⟩
          · simp only [slices_BinarySearch_int_int.l0, rd_nat]
            refine Ev.neg (by omega) (Ev.pos (by omega) (Ev.pos (by omega) (Ev.pos (by omega) (Ev.neg h3 ?_))))
            refine Ev.bind0 (a := false) (by unfold slices_isNaN_int.f; simp) ?_
            exact Ev.neg (by decide) (Ev.now _)
          · simp only [Bool.false_eq_true, if_false]
            refine (binN_is es y).unique ⟨by omega, fun t ht => ?_, fun ht => by omega⟩
            have := hlo t ht; omega
      · refine ⟨i, false, Ev.succ ?_, by omega, ?_⟩
        · simp only [slices_BinarySearch_int_int.l0]
          exact Ev.neg (by omega) (Ev.neg (by omega) (Ev.now _))
        · simp only [Bool.false_eq_true, if_false]
          refine (binN_is es y).unique ⟨by omega, fun t ht => ?_, fun ht => by omega⟩
          have := hlo t ht; omega
  termination_by d _ _ => d
  decreasing_by all_goals omega

/-- What Find answers. -/
theorem find_f (lo hi most : Int) (es : List Int) (x : Int) (hl : es.length ≤ 9223372036854775806) (h1 : -9223372036854775808 ≤ lo ∧ lo ≤ 9223372036854775807) (h2 : -9223372036854775808 ≤ hi ∧ hi ≤ 9223372036854775807) :
    Ev (fun k => bin_Find.f k lo hi most es x) (if soundE lo hi most es = 0 then ((binN es (clampV lo hi x) : Nat), 0) else (0, soundE lo hi most es)) := by
  unfold bin_Find.f
  refine Ev.bind (clamp_f lo hi most es x hl h1 h2) ?_
  by_cases h : soundE lo hi most es = 0
  · simp only [h, if_true]
    obtain ⟨_, _, _, _, _, _, hr, h64⟩ := sound0 h
    obtain ⟨n, b, hev, hn, hb⟩ := search_l0 es (clampV lo hi x) hr h64 _ 0 es.length rfl (Nat.zero_le _) (Nat.le_refl _) (fun t ht => by omega) (fun t h3 h4 => by omega)
    have hf : Ev (fun k => slices_BinarySearch_int_int.f k es (clampV lo hi x)) ((n : Int), b) := hev
    refine Ev.bind hf ?_
    refine Ev.if_ (fun hc => ?_) (fun hc => ?_)
    · rw [if_pos hc] at hb
      rw [w64 (by omega), hb]
      exact Ev.some_ rfl
    · rw [if_neg hc] at hb
      rw [hb]
      exact Ev.now _
  · simp only [h, if_false]
    exact Ev.now _

theorem refClamp_f {lo hi : Int} (h : lo ≤ hi) (most : Int) (es : List Int) (x : Int) : offertoryref09_Clamp.f lo hi most es x = some (clampV lo hi x) := by
  rw [clampV_eq h]; unfold offertoryref09_Clamp.f
  split <;> (try split) <;> rfl
theorem refBin_l0 (lo hi most : Int) (es : List Int) (x : Int) (h0 : lo ≤ hi) (hl : es.length ≤ 64) : ∀ d i : Nat, es.length - i = d → i ≤ es.length → (∀ t, t < i → es.getD t 0 ≤ clampV lo hi x) →
    Ev (fun k => offertoryref09_Bin.l0 k x (i : Int) lo hi most es) (binN es (clampV lo hi x) : Nat)
  | d, i, hd, hi', hlo => by
    refine Ev.succ ?_
    simp only [offertoryref09_Bin.l0, rd_nat]
    by_cases h : i < es.length
    · refine Ev.pos (by omega) (Ev.pos (by omega) (Ev.bind0 (refClamp_f h0 _ _ _) ?_))
      by_cases hc : es.getD i 0 ≤ clampV lo hi x
      · refine Ev.pos hc ?_
        rw [w64 (by omega)]
        exact refBin_l0 lo hi most es x h0 hl (d - 1) (i + 1) (by omega) (by omega) (fun t ht => by
          by_cases h3 : t = i
          · subst h3; exact hc
          · exact hlo t (by omega))
      · refine Ev.neg hc (Ev.some_ ?_)
        have := (binN_is es (clampV lo hi x)).unique (m := i) ⟨by omega, hlo, fun _ => by omega⟩
        rw [this]
    · refine Ev.neg (by omega) (Ev.some_ ?_)
      have := (binN_is es (clampV lo hi x)).unique (m := i) ⟨by omega, hlo, fun hn => by omega⟩
      rw [this]
  termination_by d _ => d
  decreasing_by all_goals omega
theorem refBin_f (lo hi most : Int) (es : List Int) (x : Int) (h0 : lo ≤ hi) (hl : es.length ≤ 64) : Ev (fun k => offertoryref09_Bin.f k lo hi most es x) (binN es (clampV lo hi x) : Nat) :=
  refBin_l0 lo hi most es x h0 hl _ 0 rfl (Nat.zero_le _) (fun t ht => by omega)

/-- One more in a bin. -/
def bump (c : List Int) (n : Nat) : List Int := c.set n (c.getD n 0 + 1)
theorem bump_length (c : List Int) (n : Nat) : (bump c n).length = c.length := by simp [bump]
theorem bump_sum : ∀ (c : List Int) (n : Nat), n < c.length → (bump c n).sum = c.sum + 1
  | a :: c, 0, _ => by simp [bump]; omega
  | a :: c, n + 1, h => by
    have := bump_sum c n (by simpa using h)
    simp only [bump, List.getD_cons_succ, List.set_cons_succ, List.sum_cons] at this ⊢
    omega
theorem bump_in {c : List Int} {n : Nat} {m : Int} (h : ∀ v ∈ c, 0 ≤ v ∧ v ≤ m) (hn : n < c.length) : ∀ v ∈ bump c n, 0 ≤ v ∧ v ≤ m + 1 := by
  intro v hv
  rcases List.mem_or_eq_of_mem_set hv with h1 | h1
  · have := h v h1; omega
  · have h2 := h (c.getD n 0) (by rw [List.getD_eq_getElem?_getD, List.getElem?_eq_getElem hn]; exact List.getElem_mem hn)
    omega
theorem getD_in {c : List Int} {n : Nat} {m : Int} (h : ∀ v ∈ c, 0 ≤ v ∧ v ≤ m) (hn : n < c.length) : 0 ≤ c.getD n 0 ∧ c.getD n 0 ≤ m :=
  h _ (by rw [List.getD_eq_getElem?_getD, List.getElem?_eq_getElem hn]; exact List.getElem_mem hn)
/-- The counts behind some samples more. -/
def counts (lo hi : Int) (es : List Int) (c l : List Int) : List Int := l.foldl (fun c x => bump c (binN es (clampV lo hi x))) c
theorem counts_length (lo hi : Int) (es : List Int) : ∀ (l c : List Int), (counts lo hi es c l).length = c.length
  | [], c => rfl
  | x :: l, c => by
    show (counts lo hi es (bump c _) l).length = _
    rw [counts_length lo hi es l, bump_length]
theorem counts_sum (lo hi : Int) (es : List Int) : ∀ (l c : List Int), c.length = es.length + 1 → (counts lo hi es c l).sum = c.sum + l.length
  | [], c, h => by simp [counts]
  | x :: l, c, h => by
    show (counts lo hi es (bump c _) l).sum = _
    have hb := binN_le es (clampV lo hi x)
    rw [counts_sum lo hi es l _ (by rw [bump_length]; exact h), bump_sum _ _ (by omega)]
    simp only [List.length_cons]; omega
theorem counts_in (lo hi : Int) (es : List Int) : ∀ (l c : List Int) (m : Int), c.length = es.length + 1 → (∀ v ∈ c, 0 ≤ v ∧ v ≤ m) → ∀ v ∈ counts lo hi es c l, 0 ≤ v ∧ v ≤ m + l.length
  | [], c, m, _, h => by simpa [counts] using h
  | x :: l, c, m, hc, h => by
    show ∀ v ∈ counts lo hi es (bump c _) l, _
    have hb := binN_le es (clampV lo hi x)
    have := counts_in lo hi es l (bump c (binN es (clampV lo hi x))) (m + 1) (by rw [bump_length]; exact hc) (bump_in h (by omega))
    intro v hv
    have := this v hv
    simp only [List.length_cons]; omega
theorem counts_append (lo hi : Int) (es c l m : List Int) : counts lo hi es c (l ++ m) = counts lo hi es (counts lo hi es c l) m := by simp [counts, List.foldl_append]
/-- No samples yet. -/
def zeros (es : List Int) : List Int := List.replicate (es.length + 1) 0
theorem zeros_length (es : List Int) : (zeros es).length = es.length + 1 := by simp [zeros]
theorem zeros_in (es : List Int) : ∀ v ∈ zeros es, (0 : Int) ≤ v ∧ v ≤ 0 := by
  intro v hv
  have := (List.mem_replicate.1 hv).2
  omega
theorem zeros_sum (es : List Int) : (zeros es).sum = 0 := by
  unfold zeros
  induction es.length + 1 with
  | zero => rfl
  | succ n ih => rw [List.replicate_succ, List.sum_cons, ih]; rfl
/-- The sum of the samples as they count; of their squares. -/
def sumC (lo hi : Int) (l : List Int) : Int := (l.map (clampV lo hi)).sum
def sqC (lo hi : Int) (l : List Int) : Int := (l.map fun x => clampV lo hi x * clampV lo hi x).sum
theorem sumC_cons (lo hi x : Int) (l : List Int) : sumC lo hi (x :: l) = clampV lo hi x + sumC lo hi l := by simp [sumC]
theorem sqC_cons (lo hi x : Int) (l : List Int) : sqC lo hi (x :: l) = clampV lo hi x * clampV lo hi x + sqC lo hi l := by simp [sqC]
theorem drop_get {l : List Int} {i : Nat} (h : i < l.length) : l.drop i = l.getD i 0 :: l.drop (i + 1) := by
  rw [List.drop_eq_getElem_cons h]
  simp [List.getD, List.getElem?_eq_getElem h]
def statsV (lo hi : Int) (es c l : List Int) (n S Q : Int) : List Int × Int × Int × Int × Int × Int × Bool :=
  (counts lo hi es c l, n, (resS (S + sumC lo hi l)).1, (resS (S + sumC lo hi l)).2.1, (wd (Q + sqC lo hi l)).1, (wd (Q + sqC lo hi l)).2, (resS (S + sumC lo hi l)).2.2)
theorem statsV_nil (lo hi : Int) (es c : List Int) (n S Q : Int) : statsV lo hi es c [] n S Q = (c, n, (resS S).1, (resS S).2.1, (wd Q).1, (wd Q).2, (resS S).2.2) := by
  have e1 : sumC lo hi [] = 0 := rfl
  have e2 : sqC lo hi [] = 0 := rfl
  unfold statsV
  rw [e1, e2, Int.add_zero, Int.add_zero]
  rfl
theorem statsV_cons (lo hi : Int) (es c l : List Int) (x n S Q : Int) : statsV lo hi es c (x :: l) n S Q = statsV lo hi es (bump c (binN es (clampV lo hi x))) l n (S + clampV lo hi x) (Q + clampV lo hi x * clampV lo hi x) := by
  unfold statsV
  rw [sumC_cons, sqC_cons, ← Int.add_assoc, ← Int.add_assoc]
  rfl
theorem of_l0 (lo hi most : Int) (es l : List Int) (cnt : Int) (hs : soundE lo hi most es = 0) (hlm : l.length ≤ 1000000) : ∀ (d i : Nat) (c : List Int) (S Q : Int), l.length - i = d → i ≤ l.length → c.length = es.length + 1 → (∀ v ∈ c, 0 ≤ v ∧ v ≤ (i : Int)) →
    Ev (fun k => stats_Of.l0 k l (l.length : Int) (i : Int) lo hi most es c cnt 0 0 (wd Q).1 (wd Q).2 false (wd S).1 (wd S).2)
      ((statsV lo hi es c (l.drop i) cnt S Q).1, (statsV lo hi es c (l.drop i) cnt S Q).2.1, (statsV lo hi es c (l.drop i) cnt S Q).2.2.1, (statsV lo hi es c (l.drop i) cnt S Q).2.2.2.1, (statsV lo hi es c (l.drop i) cnt S Q).2.2.2.2.1, (statsV lo hi es c (l.drop i) cnt S Q).2.2.2.2.2.1, (statsV lo hi es c (l.drop i) cnt S Q).2.2.2.2.2.2, 0)
  | d, i, c, S, Q, hd, hi', hc, hin => by
    obtain ⟨a1, a2, a3, a4, a5, a6, a7, a8⟩ := sound0 hs
    refine Ev.succ ?_
    simp only [stats_Of.l0, rd_nat]
    by_cases h : i < l.length
    · have hb := binN_le es (clampV lo hi (l.getD i 0))
      have hf := find_f lo hi most es (l.getD i 0) (by omega) (by omega) (by omega)
      have hcl := clamp_f lo hi most es (l.getD i 0) (by omega) (by omega) (by omega)
      rw [if_pos hs] at hf hcl
      have hcv := clampV_in a3 (l.getD i 0)
      have hw := of_w (x := clampV lo hi (l.getD i 0)) (by omega)
      refine Ev.pos (by omega) (Ev.pos (by omega) (Ev.pos (by omega) (Ev.bind hf (Ev.pos (by omega) (Ev.pos (by omega) (Ev.bind hcl (Ev.bind0 hw (Ev.bind0 (add_w S _) (Ev.bind0 hw (Ev.bind0 hw (Ev.bind0 (product_w _ _) (Ev.bind0 (add_w Q _) ?_))))))))))))
      have hg := getD_in hin (n := binN es (clampV lo hi (l.getD i 0))) (by omega)
      rw [rd_nat, w64 (x := (i : Int) + 1) (by omega), w64 (by omega)]
      have ih := of_l0 lo hi most es l cnt hs hlm (d - 1) (i + 1) (bump c (binN es (clampV lo hi (l.getD i 0)))) (S + clampV lo hi (l.getD i 0)) (Q + clampV lo hi (l.getD i 0) * clampV lo hi (l.getD i 0)) (by omega) (by omega) (by rw [bump_length]; exact hc) (by
        have := bump_in hin (n := binN es (clampV lo hi (l.getD i 0))) (by omega)
        intro v hv
        have := this v hv
        omega)
      rw [drop_get h, statsV_cons]
      exact ih
    · refine Ev.neg (by omega) (Ev.bind0 (signed_r S) (Ev.some_ ?_))
      rw [List.drop_eq_nil_of_le (by omega), statsV_nil]
  termination_by d _ _ _ _ => d
  decreasing_by all_goals omega
theorem of_f13 (lo hi most : Int) (es l : List Int) (hl : es.length ≤ 9223372036854775806) (hlm : l.length ≤ 1000000) (h1 : -9223372036854775808 ≤ lo ∧ lo ≤ 9223372036854775807) (h2 : -9223372036854775808 ≤ hi ∧ hi ≤ 9223372036854775807) :
    Ev (fun k => stats_Of.f k lo hi most es l) (if soundE lo hi most es = 0 then ((statsV lo hi es (zeros es) l l.length 0 0).1, (statsV lo hi es (zeros es) l l.length 0 0).2.1, (statsV lo hi es (zeros es) l l.length 0 0).2.2.1, (statsV lo hi es (zeros es) l l.length 0 0).2.2.2.1, (statsV lo hi es (zeros es) l l.length 0 0).2.2.2.2.1, (statsV lo hi es (zeros es) l l.length 0 0).2.2.2.2.2.1, (statsV lo hi es (zeros es) l l.length 0 0).2.2.2.2.2.2, 0) else ([], 0, 0, 0, 0, 0, false, soundE lo hi most es)) := by
  unfold stats_Of.f
  refine Ev.bind (sound_f lo hi most es hl h1 h2) ?_
  by_cases h : soundE lo hi most es = 0
  · obtain ⟨a1, a2, a3, a4, a5, a6, a7, a8⟩ := sound0 h
    simp only [h, if_true]
    rw [w64 (by omega)]
    refine Ev.pos (by omega) (Ev.pos (by omega) ?_)
    have := of_l0 lo hi most es l l.length h hlm _ 0 (zeros es) 0 0 rfl (Nat.zero_le _) (zeros_length es) (zeros_in es)
    rw [show ((es.length : Int) + 1).toNat = es.length + 1 by omega]
    exact this
  · simp only [h, if_false]
    exact Ev.now _
/-- Numbers of bits, times their powers of two, from a power on. -/
def powS : Nat → List Int → Int
  | _, [] => 0
  | i, x :: l => x * 2 ^ i + powS (i + 1) l
theorem powers_l0 (l : List Int) (hl : l.length ≤ 128) (hr : ∀ x ∈ l, 0 ≤ x ∧ x ≤ 4294967295) : ∀ (d i : Nat) (S : Int), i + d = l.length → Ev (fun k => stats_powers.l0 k l (l.length : Int) (i : Int) (wd S).1 (wd S).2) (wd (S + powS i (l.drop i))) := by
  intro d
  induction d with
  | zero =>
    intro i S hi
    refine Ev.succ ?_
    simp only [stats_powers.l0]
    refine Ev.neg (by omega) (Ev.some_ ?_)
    rw [List.drop_eq_nil_of_le (by omega)]
    show wd S = wd (S + 0)
    rw [Int.add_zero]
  | succ d ih =>
    intro i S hi
    have hlt : i < l.length := by omega
    have hx := hr _ (List.getElem_mem hlt)
    refine Ev.succ ?_
    simp only [stats_powers.l0, rd_nat]
    have eg : l.getD i 0 = l[i] := by simp [List.getD, List.getElem?_eq_getElem hlt]
    rw [eg, wu64 (by omega)]
    have hs := wShift_f (hi := 0) (lo := l[i]) (n := (i : Int)) (by unfold W64; omega) (by unfold W64; omega) (by omega) (by omega)
    rw [show wv 0 l[i] = l[i] by unfold wv; omega, Int.toNat_natCast] at hs
    refine Ev.pos (by omega) (Ev.pos (by omega) (Ev.pos (by omega) (Ev.bind0 hs (Ev.bind0 (add_w S _) ?_))))
    rw [w64 (by omega), List.drop_eq_getElem_cons hlt]
    have := ih (i + 1) (S + l[i] * 2 ^ i) (by omega)
    rw [show S + powS i (l[i] :: l.drop (i + 1)) = S + l[i] * 2 ^ i + powS (i + 1) (l.drop (i + 1)) by show S + (l[i] * 2 ^ i + powS (i + 1) (l.drop (i + 1))) = _; omega]
    exact this
theorem powers_f (l : List Int) (hl : l.length ≤ 128) (hr : ∀ x ∈ l, 0 ≤ x ∧ x ≤ 4294967295) : Ev (fun k => stats_powers.f k l) (wd (powS 0 l)) := by
  unfold stats_powers.f
  have := powers_l0 l hl hr l.length 0 0 (by omega)
  rw [List.drop_zero, Int.zero_add] at this
  exact this
theorem shift1 (u : Int) : wide_Shift.f (wd u).1 (wd u).2 1 = some (wd (2 * u)) := by
  rw [wShift_f (wd_in u).1 (wd_in u).2 (by omega) (by omega), wv_wd]
  congr 1
  exact wd_mod (by rw [show (1 : Int).toNat = 1 from rfl]; omega)
/-- The stats that a vector's parts come to; or that they are none. -/
def decV (lo : Int) (bins : List Int) (cnt : Int) (places squares : List Int) : List Int × Int × Int × Int × Int × Int × Bool × Int :=
  if bins.sum = cnt then (if (places.any fun n => decide (n > cnt)) = true then ([], 0, 0, 0, 0, 0, false, 11) else if (squares.any fun n => decide (n > cnt)) = true then ([], 0, 0, 0, 0, 0, false, 11) else
    (bins, cnt, (resS (powS 0 places + cnt * lo)).1, (resS (powS 0 places + cnt * lo)).2.1, (wd (powS 0 squares + 2 * lo * powS 0 places + cnt * (lo * lo))).1, (wd (powS 0 squares + 2 * lo * powS 0 places + cnt * (lo * lo))).2, (resS (powS 0 places + cnt * lo)).2.2, 0)) else ([], 0, 0, 0, 0, 0, false, 11)
theorem decSums_f (lo : Int) (bins : List Int) (cnt : Int) (places squares : List Int) (h1 : -9223372036854775808 ≤ lo ∧ lo ≤ 9223372036854775807) (hc : 0 ≤ cnt ∧ cnt ≤ 4294967295) (hp : places.length ≤ 128) (hq : squares.length ≤ 128) (hpr : ∀ x ∈ places, 0 ≤ x ∧ x ≤ 4294967295) (hqr : ∀ x ∈ squares, 0 ≤ x ∧ x ≤ 4294967295) :
    Ev (fun k => decSums k lo bins cnt places squares) (bins, cnt, (resS (powS 0 places + cnt * lo)).1, (resS (powS 0 places + cnt * lo)).2.1, (wd (powS 0 squares + 2 * lo * powS 0 places + cnt * (lo * lo))).1, (wd (powS 0 squares + 2 * lo * powS 0 places + cnt * (lo * lo))).2, (resS (powS 0 places + cnt * lo)).2.2, 0) := by
  unfold decSums
  refine Ev.bind0 (of_w h1) (Ev.bind (powers_f places hp hpr) (Ev.bind0 (of_w (by omega)) (Ev.bind (powers_f squares hq hqr) (Ev.bind0 (shift1 lo) (Ev.bind0 (product_w _ _) (Ev.bind0 (add_w _ _) (Ev.bind0 (product_w _ _) (Ev.bind0 (product_w _ _) (Ev.bind0 (add_w _ _) (Ev.bind0 (product_w _ _) (Ev.bind0 (add_w _ _) (Ev.bind0 (signed_r _) (Ev.now _)))))))))))))
theorem decBody_f (lo : Int) (bins : List Int) (cnt : Int) (places squares : List Int) (h1 : -9223372036854775808 ≤ lo ∧ lo ≤ 9223372036854775807) (hc : 0 ≤ cnt ∧ cnt ≤ 4294967295) (hp : places.length ≤ 128) (hq : squares.length ≤ 128) (hpr : ∀ x ∈ places, 0 ≤ x ∧ x ≤ 4294967295) (hqr : ∀ x ∈ squares, 0 ≤ x ∧ x ≤ 4294967295) :
    Ev (fun k => decBody k lo bins cnt places squares) (decV lo bins cnt places squares) := by
  unfold decBody decV
  refine Ev.bind0 (a := places.any fun n => decide (n > cnt)) (by unfold stats_above.f; rw [if_pos (by omega)]) (Ev.bind0 (a := squares.any fun n => decide (n > cnt)) (by unfold stats_above.f; rw [if_pos (by omega)]) ?_)
  refine Ev.if_ (fun h => ?_) (fun h => ?_)
  · rw [if_pos h]
    refine Ev.if_ (fun h2 => ?_) (fun h2 => ?_)
    · rw [if_pos h2]; exact Ev.now _
    · rw [if_neg h2]
      refine Ev.if_ (fun h3 => ?_) (fun h3 => ?_)
      · rw [if_pos h3]; exact Ev.now _
      · rw [if_neg h3]; exact decSums_f lo bins cnt places squares h1 hc hp hq hpr hqr
  · rw [if_neg h]; exact Ev.now _
theorem len_t (lo hi most n : Int) (es : List Int) (hn : soundE lo hi most es = 0 → IsBits lo hi n) (hl : es.length ≤ 9223372036854775806) (h1 : -9223372036854775808 ≤ lo ∧ lo ≤ 9223372036854775807) (h2 : -9223372036854775808 ≤ hi ∧ hi ≤ 9223372036854775807) :
    Ev (fun k => tally_Len.f k lo hi most es) (if soundE lo hi most es = 0 then ((es.length : Int) + 2 + 3 * n, 0) else (0, soundE lo hi most es)) := by
  unfold tally_Len.f
  refine Ev.bind (bits_f lo hi most n es hn hl h1 h2) ?_
  by_cases h : soundE lo hi most es = 0
  · simp only [h, if_true]
    obtain ⟨a, b, c, d, _, _, _, e⟩ := sound0 h
    have hb := hn h
    have h40 := hb.le40 d
    have h01 := hb.1
    refine Ev.some_ ?_
    rw [w64 (x := (es.length : Int) + 1) (by omega), w64 (x := (es.length : Int) + 1 + 1) (by omega), w64 (x := (es.length : Int) + 1 + 1 + n) (by omega), w64 (x := 2 * n) (by omega), w64 (by omega)]
    congr 1
    omega
  · simp only [h, if_false]
    exact Ev.now _
theorem mem_take32 {l : List Int} (h : ∀ x ∈ l, 0 ≤ x ∧ x ≤ 4294967295) (n m : Nat) : ∀ x ∈ (l.drop n).take m, 0 ≤ x ∧ x ≤ 4294967295 := fun x hx => h x (List.mem_of_mem_drop (List.mem_of_mem_take hx))
theorem mem_drop32 {l : List Int} (h : ∀ x ∈ l, 0 ≤ x ∧ x ≤ 4294967295) (n : Nat) : ∀ x ∈ l.drop n, 0 ≤ x ∧ x ≤ 4294967295 := fun x hx => h x (List.mem_of_mem_drop hx)
/-- What Decode answers for a vector of the right length. -/
theorem decode_f (lo hi most n : Int) (es v : List Int) (hs : soundE lo hi most es = 0) (hn : IsBits lo hi n) (hl : v.length = es.length + 2 + 3 * n.toNat) (hr : ∀ x ∈ v, 0 ≤ x ∧ x ≤ 4294967295) :
    Ev (fun k => stats_Decode.f k lo hi most es v) (decV lo (v.take (es.length + 1)) (v.getD (es.length + 1) 0) ((v.drop (es.length + 2)).take n.toNat) (v.drop (es.length + 2 + n.toNat))) := by
  obtain ⟨a1, a2, a3, a4, a5, a6, a7, a8⟩ := sound0 hs
  have h40 := hn.le40 a4
  have h01 := hn.1
  have hlen := len_t lo hi most n es (fun _ => hn) (by omega) (by omega) (by omega)
  have hbits := bits_f lo hi most n es (fun _ => hn) (by omega) (by omega) (by omega)
  rw [if_pos hs] at hlen hbits
  unfold stats_Decode.f
  refine Ev.bind hlen (Ev.pos rfl (Ev.pos (by omega) (Ev.bind hbits (Ev.pos ⟨h01, by omega, by omega, hl, hr⟩ ?_))))
  refine decBody_f lo _ _ _ _ (by omega) ?_ (by rw [List.length_take, List.length_drop]; omega) (by rw [List.length_drop]; omega) (mem_take32 hr _ _) (mem_drop32 hr _)
  have hi2 : es.length + 1 < v.length := by omega
  rw [show v.getD (es.length + 1) 0 = v[es.length + 1] by simp [List.getD, List.getElem?_eq_getElem hi2]]
  exact hr _ (List.getElem_mem hi2)
/-- And for any other one. -/
theorem decode_no (lo hi most : Int) (es v : List Int) (hl : es.length ≤ 9223372036854775806) (h1 : -9223372036854775808 ≤ lo ∧ lo ≤ 9223372036854775807) (h2 : -9223372036854775808 ≤ hi ∧ hi ≤ 9223372036854775807) (n : Int) (hn : soundE lo hi most es = 0 → IsBits lo hi n) (hno : soundE lo hi most es = 0 → (v.length : Int) ≠ es.length + 2 + 3 * n) :
    Ev (fun k => stats_Decode.f k lo hi most es v) ([], 0, 0, 0, 0, 0, false, if soundE lo hi most es = 0 then 1 else soundE lo hi most es) := by
  have hlen := len_t lo hi most n es hn hl h1 h2
  unfold stats_Decode.f
  refine Ev.bind hlen ?_
  by_cases h : soundE lo hi most es = 0
  · simp only [h, if_true]
    exact Ev.neg (hno h) (Ev.now _)
  · simp only [h, if_false]
    exact Ev.now _
theorem bmpE_get (out : List Int) (j m : Nat) (d : Int) (hj : j < out.length) : (bmpE out j d).getD m 0 = if m = j then (out.getD j 0 + d) % 4294967296 else out.getD m 0 := by
  unfold bmpE
  by_cases h : m = j
  · subst h; simp [List.getD, hj]
  · rw [if_neg h]; simp [List.getD, List.getElem?_set, Ne.symm h]
theorem plE_get (at_ : Nat) (n : Int) : ∀ (i : Nat) (out : List Int) (m : Nat), at_ + i ≤ out.length → (plE at_ n i out).getD m 0 = if at_ ≤ m ∧ m < at_ + i then (out.getD m 0 + n / 2 ^ (m - at_) % 2) % 4294967296 else out.getD m 0
  | 0, out, m, _ => by rw [if_neg (by omega)]; rfl
  | i + 1, out, m, h => by
    have ih := plE_get at_ n i out
    have e : plE at_ n (i + 1) out = bmpE (plE at_ n i out) (at_ + i) (n / 2 ^ i % 2) := rfl
    rw [e, bmpE_get _ _ _ _ (by rw [plE_length]; omega)]
    by_cases hm : m = at_ + i
    · subst hm
      rw [if_pos rfl, if_pos (by omega), ih _ (by omega), if_neg (by omega), show at_ + i - at_ = i by omega]
    · rw [if_neg hm, ih _ (by omega)]
      by_cases hr : at_ ≤ m ∧ m < at_ + i
      · rw [if_pos hr, if_pos (by omega)]
      · rw [if_neg hr, if_neg (by omega)]
theorem sqE_get (at_ : Nat) (s : List Int) : ∀ (i : Nat) (out : List Int) (m : Nat), at_ + i ≤ out.length → (sqE at_ s i out).getD m 0 = if at_ ≤ m ∧ m < at_ + i then (out.getD m 0 + s.getD ((m - at_) / 16) 0 / 2 ^ ((m - at_) % 16) % 2) % 4294967296 else out.getD m 0
  | 0, out, m, _ => by rw [if_neg (by omega)]; rfl
  | i + 1, out, m, h => by
    have ih := sqE_get at_ s i out
    have e : sqE at_ s (i + 1) out = bmpE (sqE at_ s i out) (at_ + i) (s.getD (i / 16) 0 / 2 ^ (i % 16) % 2) := rfl
    rw [e, bmpE_get _ _ _ _ (by rw [sqE_length]; omega)]
    by_cases hm : m = at_ + i
    · subst hm
      rw [if_pos rfl, if_pos (by omega), ih _ (by omega), if_neg (by omega), show at_ + i - at_ = i by omega]
    · rw [if_neg hm, ih _ (by omega)]
      by_cases hr : at_ ≤ m ∧ m < at_ + i
      · rw [if_pos hr, if_pos (by omega)]
      · rw [if_neg hr, if_neg (by omega)]
/-- The digits of a number, as a list; a bit of it. -/
def digsL (v : Int) : List Int := [bigD v 0, bigD v 1, bigD v 2, bigD v 3, bigD v 4, bigD v 5, bigD v 6, bigD v 7]
theorem digsL_get (v : Int) (i : Nat) (h : i < 8) : (digsL v).getD i 0 = bigD v i := by
  match i, h with
  | 0, _ => rfl
  | 1, _ => rfl
  | 2, _ => rfl
  | 3, _ => rfl
  | 4, _ => rfl
  | 5, _ => rfl
  | 6, _ => rfl
  | 7, _ => rfl
theorem bit16 (u : Int) (r : Nat) (h : r < 16) : u % 65536 / 2 ^ r % 2 = u / 2 ^ r % 2 := by
  match r, h with
  | 0, _ => show u % 65536 / 1 % 2 = u / 1 % 2; omega
  | 1, _ => show u % 65536 / 2 % 2 = u / 2 % 2; omega
  | 2, _ => show u % 65536 / 4 % 2 = u / 4 % 2; omega
  | 3, _ => show u % 65536 / 8 % 2 = u / 8 % 2; omega
  | 4, _ => show u % 65536 / 16 % 2 = u / 16 % 2; omega
  | 5, _ => show u % 65536 / 32 % 2 = u / 32 % 2; omega
  | 6, _ => show u % 65536 / 64 % 2 = u / 64 % 2; omega
  | 7, _ => show u % 65536 / 128 % 2 = u / 128 % 2; omega
  | 8, _ => show u % 65536 / 256 % 2 = u / 256 % 2; omega
  | 9, _ => show u % 65536 / 512 % 2 = u / 512 % 2; omega
  | 10, _ => show u % 65536 / 1024 % 2 = u / 1024 % 2; omega
  | 11, _ => show u % 65536 / 2048 % 2 = u / 2048 % 2; omega
  | 12, _ => show u % 65536 / 4096 % 2 = u / 4096 % 2; omega
  | 13, _ => show u % 65536 / 8192 % 2 = u / 8192 % 2; omega
  | 14, _ => show u % 65536 / 16384 % 2 = u / 16384 % 2; omega
  | 15, _ => show u % 65536 / 32768 % 2 = u / 32768 % 2; omega
  | r + 16, h => exact absurd h (by omega)
theorem pow16 (n : Nat) : (65536 : Int) ^ n = 2 ^ (16 * n) := by rw [Int.pow_mul]; rfl
theorem digs_bit (v : Int) (i : Nat) (h : i < 128) : (digsL v).getD (i / 16) 0 / 2 ^ (i % 16) % 2 = v / 2 ^ i % 2 := by
  rw [digsL_get _ _ (by omega)]
  unfold bigD
  rw [bit16 _ _ (by omega), Int.ediv_ediv_of_nonneg (Int.le_of_lt (Int.pow_pos (by decide))), pow16, ← Int.pow_add, show 16 * (i / 16) + i % 16 = i by omega]
/-- What a sample gives at a place. -/
def conE (lo hi : Int) (es : List Int) (b : Nat) (m : Nat) (x : Int) : Int :=
  if m < es.length + 1 then (if binN es (clampV lo hi x) = m then 1 else 0) else if m < es.length + 2 then 1
  else if m < es.length + 2 + b then (clampV lo hi x - lo) / 2 ^ (m - (es.length + 2)) % 2
  else if m < es.length + 2 + 3 * b then (clampV lo hi x - lo) * (clampV lo hi x - lo) / 2 ^ (m - (es.length + 2 + b)) % 2 else 0
theorem conE_in (lo hi : Int) (es : List Int) (b m : Nat) (x : Int) : 0 ≤ conE lo hi es b m x ∧ conE lo hi es b m x ≤ 1 := by
  unfold conE
  generalize (clampV lo hi x - lo) / 2 ^ (m - (es.length + 2)) = p
  generalize (clampV lo hi x - lo) * (clampV lo hi x - lo) / 2 ^ (m - (es.length + 2 + b)) = q
  repeat' split
  all_goals omega
theorem encOne_get (lo hi : Int) (es : List Int) (b : Nat) (x : Int) (out : List Int) (m : Nat) (hb : b ≤ 64) (hl : out.length = es.length + 2 + 3 * b) (hr : 0 ≤ out.getD m 0 ∧ out.getD m 0 < 4294967296) :
    (encOne (es.length + 2) b (binN es (clampV lo hi x)) (clampV lo hi x - lo) (digsL ((clampV lo hi x - lo) * (clampV lo hi x - lo))) out).getD m 0 = (out.getD m 0 + conE lo hi es b m x) % 4294967296 := by
  have hbn := binN_le es (clampV lo hi x)
  unfold encOne conE
  rw [sqE_get _ _ _ _ _ (by rw [plE_length, bmpE_length, bmpE_length]; omega), plE_get _ _ _ _ _ (by rw [bmpE_length, bmpE_length]; omega), bmpE_get _ _ _ _ (by rw [bmpE_length]; omega), bmpE_get _ _ _ _ (by omega), bmpE_get _ _ _ _ (by omega)]
  by_cases h1 : m < es.length + 1
  · rw [if_neg (by omega), if_neg (by omega), if_neg (by omega), if_pos h1]
    by_cases h2 : m = binN es (clampV lo hi x)
    · rw [if_pos h2, if_pos h2.symm, ← h2]
    · rw [if_neg h2, if_neg (fun e => h2 e.symm)]; omega
  · rw [if_neg h1]
    by_cases h2 : m < es.length + 2
    · rw [if_neg (by omega), if_neg (by omega), if_pos (by omega), if_neg (by omega), if_pos h2, show es.length + 2 - 1 = m by omega]
    · rw [if_neg h2]
      by_cases h3 : m < es.length + 2 + b
      · rw [if_neg (by omega), if_pos (by omega), if_neg (by omega), if_neg (by omega), if_pos h3]
      · rw [if_neg h3]
        by_cases h4 : m < es.length + 2 + 3 * b
        · rw [if_pos (by omega), if_neg (by omega), if_neg (by omega), if_neg (by omega), if_pos h4, digs_bit _ _ (by omega)]
        · rw [if_neg (by omega), if_neg (by omega), if_neg (by omega), if_neg (by omega), if_neg h4]; omega
def encL (lo hi : Int) (es : List Int) (b : Nat) (l out : List Int) : List Int :=
  l.foldl (fun out x => encOne (es.length + 2) b (binN es (clampV lo hi x)) (clampV lo hi x - lo) (digsL ((clampV lo hi x - lo) * (clampV lo hi x - lo))) out) out
/-- What all samples give at a place. -/
def conS (lo hi : Int) (es : List Int) (b : Nat) (l : List Int) (m : Nat) : Int := (l.map (conE lo hi es b m)).sum
theorem conS_cons (lo hi : Int) (es : List Int) (b : Nat) (x : Int) (l : List Int) (m : Nat) : conS lo hi es b (x :: l) m = conE lo hi es b m x + conS lo hi es b l m := by simp [conS]
theorem conS_in (lo hi : Int) (es : List Int) (b : Nat) (m : Nat) : ∀ l, 0 ≤ conS lo hi es b l m ∧ conS lo hi es b l m ≤ l.length
  | [] => by simp [conS]
  | x :: l => by
    have := conS_in lo hi es b m l
    have := conE_in lo hi es b m x
    rw [conS_cons, List.length_cons]
    omega
theorem encL_length (lo hi : Int) (es : List Int) (b : Nat) : ∀ (l out : List Int), (encL lo hi es b l out).length = out.length
  | [], out => rfl
  | x :: l, out => by
    show (encL lo hi es b l _).length = _
    rw [encL_length lo hi es b l, encOne_length]
theorem encL_get (lo hi : Int) (es : List Int) (b : Nat) (hb : b ≤ 64) : ∀ (l out : List Int) (m : Nat), out.length = es.length + 2 + 3 * b → (∀ m, 0 ≤ out.getD m 0 ∧ out.getD m 0 < 4294967296) →
    (encL lo hi es b l out).getD m 0 = (out.getD m 0 + conS lo hi es b l m) % 4294967296
  | [], out, m, _, hr => by
    have := hr m
    show out.getD m 0 = (out.getD m 0 + 0) % 4294967296
    omega
  | x :: l, out, m, hl, hr => by
    have g := fun m => encOne_get lo hi es b x out m hb hl (hr m)
    show (encL lo hi es b l (encOne _ _ _ _ _ out)).getD m 0 = _
    rw [encL_get lo hi es b hb l _ m (by rw [encOne_length]; exact hl) (fun m => by rw [g m]; omega), g m, conS_cons, Int.emod_add_emod, Int.add_assoc]
def vecE (lo hi : Int) (es : List Int) (b : Nat) (l : List Int) : List Int := encL lo hi es b l (List.replicate (es.length + 2 + 3 * b) 0)
theorem vecE_length (lo hi : Int) (es : List Int) (b : Nat) (l : List Int) : (vecE lo hi es b l).length = es.length + 2 + 3 * b := by unfold vecE; rw [encL_length, List.length_replicate]
theorem zero_get (n m : Nat) : (List.replicate n (0 : Int)).getD m 0 = 0 := by
  by_cases h : m < n <;> simp [List.getD, h]
theorem vecE_get (lo hi : Int) (es : List Int) (b : Nat) (hb : b ≤ 64) (l : List Int) (m : Nat) : (vecE lo hi es b l).getD m 0 = conS lo hi es b l m % 4294967296 := by
  unfold vecE
  rw [encL_get lo hi es b hb l _ m List.length_replicate (fun m => by rw [zero_get]; omega), zero_get, Int.zero_add]
theorem encAll_f (lo hi most : Int) (es : List Int) (b : Nat) (hs : soundE lo hi most es = 0) : ∀ (l out : List Int), out.length = es.length + 2 + 3 * b → Ev (fun k => encAll k lo hi most es b (es.length + 2) l out) (encL lo hi es b l out)
  | [], out, _ => Ev.now _
  | x :: r, out, hl => by
    obtain ⟨a1, a2, a3, a4, a5, a6, a7, a8⟩ := sound0 hs
    have hf := refBin_f lo hi most es x a3 a8
    have hcv := clampV_in a3 x
    have hbn := binN_le es (clampV lo hi x)
    have hw : IntKind.u64.wrap (wrap64 (clampV lo hi x - lo)) = clampV lo hi x - lo := by rw [w64 (by omega), wu64 (by omega)]
    have hof := of_f (hi := 0) (lo := clampV lo hi x - lo) (by unfold W64; omega) (by unfold W64; omega)
    rw [show wv 0 (clampV lo hi x - lo) = clampV lo hi x - lo by unfold wv; omega] at hof
    have ih := encAll_f lo hi most es b hs r (encOne (es.length + 2) b (binN es (clampV lo hi x)) (clampV lo hi x - lo) (digsL ((clampV lo hi x - lo) * (clampV lo hi x - lo))) out) (by rw [encOne_length]; exact hl)
    simp only [encAll]
    refine Ev.bind (a := encOne (es.length + 2) b (binN es (clampV lo hi x)) (clampV lo hi x - lo) (digsL ((clampV lo hi x - lo) * (clampV lo hi x - lo))) out) ?_ ih
    simp only [encStep]
    refine Ev.bind hf (Ev.bind0 (refClamp_f a3 most es x) (Ev.bind0 (by rw [hw]; exact hof) (Ev.bind0 (bigMul_f _ _) ?_)))
    refine Ev.pos ⟨by omega, by omega⟩ (Ev.some_ ?_)
    rw [hw, Int.toNat_natCast]
    rfl
theorem refEncode_f (lo hi most n : Int) (es l : List Int) (hs : soundE lo hi most es = 0) (hn : IsBits lo hi n) (hl : l.length ≤ 100000)
    (hlen : Ev (fun k => offertoryref09_Len.f k lo hi most es) ((es.length : Int) + 2 + 3 * n)) : Ev (fun k => offertoryref09_Encode.f k lo hi most es l) (vecE lo hi es n.toNat l) := by
  obtain ⟨a1, a2, a3, a4, a5, a6, a7, a8⟩ := sound0 hs
  have h40 := hn.le40 a4
  have h01 := hn.1
  unfold offertoryref09_Encode.f
  refine Ev.bind (refBits_f lo hi most n es hn a3 a4) (Ev.bind hlen (Ev.pos ⟨by omega, by omega, by omega, rfl, hl⟩ ?_))
  rw [show ((es.length : Int) + 2 + 3 * n).toNat = es.length + 2 + 3 * n.toNat by omega]
  exact encAll_f lo hi most es n.toNat hs l _ List.length_replicate
theorem list_ext (a b : List Int) (hl : a.length = b.length) (h : ∀ m, m < a.length → a.getD m 0 = b.getD m 0) : a = b := by
  apply List.ext_getElem hl
  intro m h1 h2
  have := h m h1
  simpa [List.getD, List.getElem?_eq_getElem h1, List.getElem?_eq_getElem h2] using this
/-- A sum of numbers times powers of two, by a function. -/
def powR (g : Nat → Int) : Nat → Int
  | 0 => 0
  | n + 1 => powR g n + g n * 2 ^ n
theorem powS_snoc : ∀ (i : Nat) (l : List Int) (x : Int), powS i (l ++ [x]) = powS i l + x * 2 ^ (i + l.length)
  | i, [], x => by simp [powS]
  | i, y :: l, x => by
    show y * 2 ^ i + powS (i + 1) (l ++ [x]) = y * 2 ^ i + powS (i + 1) l + x * 2 ^ (i + (l.length + 1))
    rw [powS_snoc (i + 1) l x, show i + 1 + l.length = i + (l.length + 1) by omega, Int.add_assoc]
theorem powS_range (g : Nat → Int) : ∀ n, powS 0 ((List.range n).map g) = powR g n
  | 0 => rfl
  | n + 1 => by
    rw [List.range_succ, List.map_append, List.map_cons, List.map_nil, powS_snoc, powS_range g n, List.length_map, List.length_range, Nat.zero_add]
    rfl
theorem powR_add (f g : Nat → Int) : ∀ n, powR (fun t => f t + g t) n = powR f n + powR g n
  | 0 => rfl
  | n + 1 => by
    simp only [powR]
    rw [powR_add f g n, Int.add_mul]
    omega
theorem powR_mul (f : Nat → Int) (t : Int) : ∀ n, powR (fun i => f i * t) n = powR f n * t
  | 0 => by simp [powR]
  | n + 1 => by
    simp only [powR]
    rw [powR_mul f t n, Int.add_mul, Int.mul_assoc, Int.mul_comm t, ← Int.mul_assoc]
theorem powR_ext {f g : Nat → Int} : ∀ {n : Nat}, (∀ t, t < n → f t = g t) → powR f n = powR g n
  | 0, _ => rfl
  | n + 1, h => by
    simp only [powR]
    rw [powR_ext (fun t ht => h t (by omega)), h n (by omega)]
theorem emod_two_pow_succ (v : Int) (n : Nat) : v % 2 ^ (n + 1) = v % 2 ^ n + v / 2 ^ n % 2 * 2 ^ n := by
  have hp : (0 : Int) < 2 ^ n := Int.pow_pos (by decide)
  have e1 := Int.mul_ediv_add_emod v (2 ^ n)
  have e2 := Int.mul_ediv_add_emod (v / 2 ^ n) 2
  have r0 := Int.emod_nonneg v (Int.ne_of_gt hp)
  have r1 := Int.emod_lt_of_pos v hp
  have s0 : 0 ≤ v / 2 ^ n % 2 ∧ v / 2 ^ n % 2 ≤ 1 := by omega
  rw [Int.pow_succ]
  generalize v % 2 ^ n = r at *
  generalize v / 2 ^ n % 2 = s at *
  generalize v / 2 ^ n / 2 = q at *
  generalize v / 2 ^ n = u at *
  generalize (2 : Int) ^ n = p at *
  have hv : v = r + s * p + p * 2 * q := by
    rw [← e1, ← e2, Int.mul_add, Int.mul_comm s p, ← Int.mul_assoc]
    omega
  rw [hv, Int.add_mul_emod_self_left]
  refine Int.emod_eq_of_lt ?_ ?_
  · have := Int.mul_nonneg s0.1 (Int.le_of_lt hp); omega
  · have := Int.mul_le_mul_of_nonneg_right s0.2 (Int.le_of_lt hp); omega
theorem powR_bits (v : Int) : ∀ n, powR (fun t => v / 2 ^ t % 2) n = v % 2 ^ n
  | 0 => by show (0 : Int) = v % 1; omega
  | n + 1 => by
    simp only [powR]
    rw [powR_bits v n, emod_two_pow_succ]
/-- What the numbers of bits come to, of samples. -/
theorem powR_conP (lo hi : Int) (es : List Int) (b : Nat) (h : lo ≤ hi) (hb : hi - lo < 2 ^ b) : ∀ l : List Int, powR (fun t => conS lo hi es b l (es.length + 2 + t)) b = sumC lo hi l - l.length * lo
  | [] => by
    rw [powR_ext (g := fun _ => 0 * 0) (fun t _ => by simp [conS]), powR_mul]
    simp [sumC]
  | x :: l => by
    have ih := powR_conP lo hi es b h hb l
    have hc := clampV_in h x
    rw [powR_ext (g := fun t => (clampV lo hi x - lo) / 2 ^ t % 2 + conS lo hi es b l (es.length + 2 + t)) (fun t ht => by
      rw [conS_cons]
      unfold conE
      rw [if_neg (by omega), if_neg (by omega), if_pos (by omega), show es.length + 2 + t - (es.length + 2) = t by omega]), powR_add, powR_bits, ih, sumC_cons, List.length_cons, Int.emod_eq_of_lt (by omega) (by omega), Int.natCast_add, Int.add_mul]
    omega
theorem powR_conQ (lo hi : Int) (es : List Int) (b : Nat) (h : lo ≤ hi) (hb : hi - lo < 2 ^ b) : ∀ l : List Int, powR (fun t => conS lo hi es b l (es.length + 2 + b + t)) (2 * b) = sqC lo hi l - 2 * lo * sumC lo hi l + l.length * (lo * lo)
  | [] => by
    rw [powR_ext (g := fun _ => 0 * 0) (fun t _ => by simp [conS]), powR_mul]
    simp [sumC, sqC]
  | x :: l => by
    have ih := powR_conQ lo hi es b h hb l
    have hc := clampV_in h x
    have hlt : (clampV lo hi x - lo) * (clampV lo hi x - lo) < 2 ^ (2 * b) := by
      rw [Nat.two_mul, Int.pow_add]
      have h2 := Int.mul_le_mul (a := clampV lo hi x - lo) (b := clampV lo hi x - lo) (c := 2 ^ b - 1) (d := 2 ^ b - 1) (by omega) (by omega) (by omega) (by omega)
      have h3 : (2 ^ b - 1 : Int) * (2 ^ b - 1) = 2 ^ b * 2 ^ b - 2 ^ b - (2 ^ b - 1) := by rw [Int.sub_mul, Int.mul_sub, Int.one_mul, Int.mul_one]
      omega
    have hnn : 0 ≤ (clampV lo hi x - lo) * (clampV lo hi x - lo) := Int.mul_nonneg (by omega) (by omega)
    rw [powR_ext (g := fun t => (clampV lo hi x - lo) * (clampV lo hi x - lo) / 2 ^ t % 2 + conS lo hi es b l (es.length + 2 + b + t)) (fun t ht => by
      rw [conS_cons]
      unfold conE
      rw [if_neg (by omega), if_neg (by omega), if_neg (by omega), if_pos (by omega), show es.length + 2 + b + t - (es.length + 2 + b) = t by omega]), powR_add, powR_bits, ih, sqC_cons, sumC_cons, List.length_cons, Int.emod_eq_of_lt hnn hlt, Int.natCast_add]
    generalize clampV lo hi x = c
    generalize sqC lo hi l = q
    generalize sumC lo hi l = s
    generalize (l.length : Int) = n
    simp only [Int.sub_mul, Int.mul_sub, Int.mul_add, Int.add_mul, Int.mul_comm lo c, Int.one_mul]
    rw [Int.mul_assoc 2 lo c, Int.mul_comm lo c]
    omega
theorem counts_at (lo hi : Int) (es : List Int) (b : Nat) : ∀ (l c : List Int) (j : Nat), c.length = es.length + 1 → j < es.length + 1 → (counts lo hi es c l).getD j 0 = c.getD j 0 + conS lo hi es b l j
  | [], c, j, _, _ => by simp [counts, conS]
  | x :: l, c, j, h, hj => by
    have e : counts lo hi es c (x :: l) = counts lo hi es (bump c (binN es (clampV lo hi x))) l := rfl
    have hb := binN_le es (clampV lo hi x)
    rw [e, counts_at lo hi es b l _ j (by rw [bump_length]; exact h) hj, conS_cons]
    have hg : (bump c (binN es (clampV lo hi x))).getD j 0 = c.getD j 0 + conE lo hi es b j x := by
      unfold bump conE
      rw [if_pos hj]
      by_cases hk : binN es (clampV lo hi x) = j
      · rw [if_pos hk, hk]
        have : j < c.length := by omega
        simp [List.getD, this]
      · rw [if_neg hk]
        simp [List.getD, List.getElem?_set, hk]
    rw [hg]
    omega
theorem zeros_at (es : List Int) (j : Nat) : (zeros es).getD j 0 = 0 := zero_get _ _
/-- The vector of samples, each number some times over. -/
def vecT (lo hi : Int) (es : List Int) (b : Nat) (l : List Int) (t : Int) : List Int := (vecE lo hi es b l).map (· * t)
theorem vecT_length (lo hi : Int) (es : List Int) (b : Nat) (l : List Int) (t : Int) : (vecT lo hi es b l t).length = es.length + 2 + 3 * b := by unfold vecT; rw [List.length_map, vecE_length]
theorem map_get (l : List Int) (t : Int) (m : Nat) : (l.map (· * t)).getD m 0 = l.getD m 0 * t := by
  by_cases h : m < l.length
  · simp [List.getD, List.getElem?_eq_getElem h]
  · simp [List.getD, List.getElem?_eq_none (Nat.le_of_not_lt h)]
theorem vecT_get (lo hi : Int) (es : List Int) (b : Nat) (hb : b ≤ 64) (l : List Int) (hl : (l.length : Int) < 4294967296) (t : Int) (m : Nat) : (vecT lo hi es b l t).getD m 0 = conS lo hi es b l m * t := by
  have := conS_in lo hi es b m l
  unfold vecT
  rw [map_get, vecE_get _ _ _ _ hb, Int.emod_eq_of_lt this.1 (by omega)]
theorem conT_in {lo hi : Int} {es : List Int} {b : Nat} {l : List Int} {t : Int} (h0 : 0 ≤ t) (m : Nat) : 0 ≤ conS lo hi es b l m * t ∧ conS lo hi es b l m * t ≤ l.length * t := by
  have := conS_in lo hi es b m l
  exact ⟨Int.mul_nonneg this.1 h0, Int.mul_le_mul_of_nonneg_right this.2 h0⟩
theorem vecT_in {lo hi : Int} {es : List Int} {b : Nat} (hb : b ≤ 64) {l : List Int} (hl : (l.length : Int) < 4294967296) {t : Int} (h0 : 0 ≤ t) (ht : l.length * t < 4294967296) : ∀ x ∈ vecT lo hi es b l t, 0 ≤ x ∧ x ≤ l.length * t := by
  intro x hx
  obtain ⟨m, hm, rfl⟩ := List.getElem_of_mem hx
  have g := vecT_get lo hi es b hb l hl t m
  rw [show (vecT lo hi es b l t).getD m 0 = (vecT lo hi es b l t)[m] by simp [List.getD, List.getElem?_eq_getElem hm]] at g
  rw [g]
  exact conT_in h0 m
theorem any_no {l : List Int} {c : Int} (h : ∀ x ∈ l, x ≤ c) : (l.any fun n => decide (n > c)) = false := by
  rw [List.any_eq_false]
  intro x hx
  have := h x hx
  rw [decide_eq_true_eq]
  omega
theorem sum_mul (t : Int) : ∀ l : List Int, (l.map (· * t)).sum = l.sum * t
  | [] => by simp
  | x :: l => by rw [List.map_cons, List.sum_cons, List.sum_cons, sum_mul t l, Int.add_mul]
/-- What Decode answers for it. -/
theorem decV_vec (lo hi most n : Int) (es l : List Int) (t : Int) (hs : soundE lo hi most es = 0) (hn : IsBits lo hi n) (h0 : 0 ≤ t) (hl : (l.length : Int) < 4294967296) (ht : l.length * t < 4294967296) :
    decV lo ((vecT lo hi es n.toNat l t).take (es.length + 1)) ((vecT lo hi es n.toNat l t).getD (es.length + 1) 0) (((vecT lo hi es n.toNat l t).drop (es.length + 2)).take n.toNat) ((vecT lo hi es n.toNat l t).drop (es.length + 2 + n.toNat)) =
      ((counts lo hi es (zeros es) l).map (· * t), l.length * t, (resS (sumC lo hi l * t)).1, (resS (sumC lo hi l * t)).2.1, (wd (sqC lo hi l * t)).1, (wd (sqC lo hi l * t)).2, (resS (sumC lo hi l * t)).2.2, 0) := by
  obtain ⟨a1, a2, a3, a4, a5, a6, a7, a8⟩ := sound0 hs
  have h40 := hn.le40 a4
  have h01 := hn.1
  have hb : n.toNat ≤ 64 := by omega
  have hbits := hn.2.1
  have hlen := vecT_length lo hi es n.toNat l t
  have hget := vecT_get lo hi es n.toNat hb l hl t
  have hin := vecT_in (lo := lo) (hi := hi) (es := es) hb hl h0 ht
  have hcl : (counts lo hi es (zeros es) l).length = es.length + 1 := by rw [counts_length, zeros_length]
  have e1 : (vecT lo hi es n.toNat l t).take (es.length + 1) = (counts lo hi es (zeros es) l).map (· * t) := by
    refine list_ext _ _ (by rw [List.length_take, List.length_map, hcl, hlen]; omega) fun m hm => ?_
    rw [List.length_take] at hm
    have hm2 : m < es.length + 1 := by omega
    rw [map_get, counts_at lo hi es n.toNat l _ m (zeros_length es) hm2, zeros_at, Int.zero_add, ← hget m]
    simp [List.getD, List.getElem?_take, hm2]
  have e2 : (vecT lo hi es n.toNat l t).getD (es.length + 1) 0 = l.length * t := by
    rw [hget]
    congr 1
    have : ∀ l : List Int, conS lo hi es n.toNat l (es.length + 1) = l.length := by
      intro l
      induction l with
      | nil => rfl
      | cons x l ih =>
        rw [conS_cons, ih, List.length_cons]
        unfold conE
        rw [if_neg (by omega), if_pos (by omega)]
        omega
    exact this l
  have e3 : ((vecT lo hi es n.toNat l t).drop (es.length + 2)).take n.toNat = (List.range n.toNat).map fun i => conS lo hi es n.toNat l (es.length + 2 + i) * t := by
    refine list_ext _ _ (by rw [List.length_take, List.length_drop, List.length_map, List.length_range, hlen]; omega) fun m hm => ?_
    rw [List.length_take] at hm
    have hm2 : m < n.toNat := by omega
    rw [show (((List.range n.toNat).map fun i => conS lo hi es n.toNat l (es.length + 2 + i) * t).getD m 0) = conS lo hi es n.toNat l (es.length + 2 + m) * t by simp [List.getD, hm2], ← hget]
    simp [List.getD, List.getElem?_take, hm2]
  have e4 : (vecT lo hi es n.toNat l t).drop (es.length + 2 + n.toNat) = (List.range (2 * n.toNat)).map fun i => conS lo hi es n.toNat l (es.length + 2 + n.toNat + i) * t := by
    refine list_ext _ _ (by rw [List.length_drop, List.length_map, List.length_range, hlen]; omega) fun m hm => ?_
    rw [List.length_drop] at hm
    have hm2 : m < 2 * n.toNat := by omega
    rw [show (((List.range (2 * n.toNat)).map fun i => conS lo hi es n.toNat l (es.length + 2 + n.toNat + i) * t).getD m 0) = conS lo hi es n.toNat l (es.length + 2 + n.toNat + m) * t by simp [List.getD, hm2], ← hget]
    simp [List.getD]
  have c1 : ((counts lo hi es (zeros es) l).map (· * t)).sum = l.length * t := by
    rw [sum_mul, counts_sum lo hi es l _ (zeros_length es), zeros_sum, Int.zero_add]
  have c2 : ((((vecT lo hi es n.toNat l t).drop (es.length + 2)).take n.toNat).any fun x => decide (x > l.length * t)) = false := any_no fun x hx => (hin x (List.mem_of_mem_drop (List.mem_of_mem_take hx))).2
  have c3 : (((vecT lo hi es n.toNat l t).drop (es.length + 2 + n.toNat)).any fun x => decide (x > l.length * t)) = false := any_no fun x hx => (hin x (List.mem_of_mem_drop hx)).2
  unfold decV
  rw [e1, e2, if_pos c1, if_neg (by rw [c2]; decide), if_neg (by rw [c3]; decide), e3, e4, powS_range, powS_range, powR_mul, powR_mul, powR_conP lo hi es n.toNat a3 hbits, powR_conQ lo hi es n.toNat a3 hbits]
  have f1 : (sumC lo hi l - l.length * lo) * t + l.length * t * lo = sumC lo hi l * t := by
    rw [Int.sub_mul, Int.mul_assoc (l.length : Int) t lo, Int.mul_comm t lo, ← Int.mul_assoc]; omega
  have f2 : (sqC lo hi l - 2 * lo * sumC lo hi l + l.length * (lo * lo)) * t + 2 * lo * ((sumC lo hi l - l.length * lo) * t) + l.length * t * (lo * lo) = sqC lo hi l * t := by
    generalize sqC lo hi l = q
    generalize sumC lo hi l = s
    generalize (l.length : Int) = m
    have g1 : 2 * lo * ((s - m * lo) * t) = 2 * lo * s * t - 2 * (m * (lo * lo) * t) := by
      rw [Int.sub_mul, Int.mul_sub, ← Int.mul_assoc, Int.mul_assoc 2 lo (m * lo * t), Int.mul_left_comm lo]
      have : m * lo * (lo * t) = m * (lo * lo) * t := by rw [Int.mul_assoc m lo, ← Int.mul_assoc lo lo t, ← Int.mul_assoc]
      rw [this]
    have g2 : m * t * (lo * lo) = m * (lo * lo) * t := by rw [Int.mul_assoc, Int.mul_comm t, ← Int.mul_assoc]
    rw [g1, g2, Int.add_mul, Int.sub_mul]
    omega
  rw [f1, f2]
theorem refLen_f (lo hi most n : Int) (es : List Int) (hn : IsBits lo hi n) (h0 : lo ≤ hi) (hd : hi - lo < 1099511627776) (hl : es.length ≤ 64) : Ev (fun k => offertoryref09_Len.f k lo hi most es) ((es.length : Int) + 2 + 3 * n) := by
  have h40 := hn.le40 hd
  have h01 := hn.1
  unfold offertoryref09_Len.f
  refine Ev.bind (refBits_f lo hi most n es hn h0 hd) (Ev.some_ ?_)
  rw [w64 (x := (es.length : Int) + 2) (by omega), w64 (x := 3 * n) (by omega), w64 (by omega)]
theorem map_one (l : List Int) : l.map (· * 1) = l := by simp
theorem vecT_one (lo hi : Int) (es : List Int) (b : Nat) (l : List Int) : vecT lo hi es b l 1 = vecE lo hi es b l := map_one _
theorem decodeT_f (lo hi most n : Int) (es l : List Int) (t : Int) (hs : soundE lo hi most es = 0) (hn : IsBits lo hi n) (h0 : 0 ≤ t) (hl : (l.length : Int) < 4294967296) (ht : l.length * t < 4294967296) :
    Ev (fun k => stats_Decode.f k lo hi most es (vecT lo hi es n.toNat l t)) ((counts lo hi es (zeros es) l).map (· * t), l.length * t, (resS (sumC lo hi l * t)).1, (resS (sumC lo hi l * t)).2.1, (wd (sqC lo hi l * t)).1, (wd (sqC lo hi l * t)).2, (resS (sumC lo hi l * t)).2.2, 0) := by
  obtain ⟨a1, a2, a3, a4, a5, a6, a7, a8⟩ := sound0 hs
  have h40 := hn.le40 a4
  have hb : n.toNat ≤ 64 := by omega
  have hin := vecT_in (lo := lo) (hi := hi) (es := es) hb hl h0 ht
  have := decode_f lo hi most n es (vecT lo hi es n.toNat l t) hs hn (vecT_length _ _ _ _ _ _) (fun x hx => by have := hin x hx; omega)
  rw [decV_vec lo hi most n es l t hs hn h0 hl ht] at this
  exact this
theorem bigWide_f (v : Int) : offertoryref09_Big_Wide.f (bigD v 0) (bigD v 1) (bigD v 2) (bigD v 3) (bigD v 4) (bigD v 5) (bigD v 6) (bigD v 7) = some (wd v) := by
  unfold offertoryref09_Big_Wide.f
  rw [if_pos (dig_digs v)]
  simp only [wd, bigD, Option.some.injEq, Prod.mk.injEq]
  omega
theorem bigNeg_f (v : Int) : offertoryref09_Neg.f (bigD v 0) (bigD v 1) (bigD v 2) (bigD v 3) (bigD v 4) (bigD v 5) (bigD v 6) (bigD v 7) = some (digs (-v)) := by
  unfold offertoryref09_Neg.f
  rw [if_pos (dig_digs v), bV_digs]
  congr 1
  exact digs_eq (by omega)
theorem bigInt_f {x : Int} (h : -9223372036854775808 ≤ x ∧ x ≤ 9223372036854775807) : offertoryref09_Int.f x = some (digs x) := by
  unfold offertoryref09_Int.f
  rw [if_pos h]
def signD (u : Int) : Int × Int × Int × Int × Int × Int × Int × Int × Bool :=
  if negB u = true then (bigD (-u) 0, bigD (-u) 1, bigD (-u) 2, bigD (-u) 3, bigD (-u) 4, bigD (-u) 5, bigD (-u) 6, bigD (-u) 7, true) else (bigD u 0, bigD u 1, bigD u 2, bigD u 3, bigD u 4, bigD u 5, bigD u 6, bigD u 7, false)
theorem neg7 (u : Int) : bigD u 7 ≥ 32768 ↔ negB u = true := by
  unfold negB bigD
  rw [decide_eq_true_eq]
  constructor <;> intro h <;> omega
theorem bigSigned_f (u : Int) : offertoryref09_Signed.f (bigD u 0) (bigD u 1) (bigD u 2) (bigD u 3) (bigD u 4) (bigD u 5) (bigD u 6) (bigD u 7) = some (signD u) := by
  unfold offertoryref09_Signed.f signD
  by_cases h : negB u = true
  · rw [if_pos ((neg7 u).2 h), if_pos h, bigNeg_f]; rfl
  · rw [if_neg (fun x => h ((neg7 u).1 x)), if_neg h]
theorem signWide (u : Int) : (offertoryref09_Big_Wide.f (signD u).1 (signD u).2.1 (signD u).2.2.1 (signD u).2.2.2.1 (signD u).2.2.2.2.1 (signD u).2.2.2.2.2.1 (signD u).2.2.2.2.2.2.1 (signD u).2.2.2.2.2.2.2.1) = some ((resS u).1, (resS u).2.1) := by
  unfold signD resS
  split
  · exact bigWide_f (-u)
  · exact bigWide_f u
theorem signBool (u : Int) : (signD u).2.2.2.2.2.2.2.2 = (resS u).2.2 := by unfold signD resS; split <;> rfl
theorem refStats_l0 (lo hi most : Int) (es l : List Int) (cnt : Int) (hs : soundE lo hi most es = 0) (hlm : l.length ≤ 1000000) : ∀ (d i : Nat) (c : List Int) (S Q : Int), l.length - i = d → i ≤ l.length → c.length = es.length + 1 → (∀ v ∈ c, 0 ≤ v ∧ v ≤ (i : Int)) →
    Ev (fun k => offertoryref09_Stats.l0 k l (i : Int) lo hi most es c cnt 0 0 0 0 false (bigD S 0) (bigD S 1) (bigD S 2) (bigD S 3) (bigD S 4) (bigD S 5) (bigD S 6) (bigD S 7) (bigD Q 0) (bigD Q 1) (bigD Q 2) (bigD Q 3) (bigD Q 4) (bigD Q 5) (bigD Q 6) (bigD Q 7)) (statsV lo hi es c (l.drop i) cnt S Q)
  | d, i, c, S, Q, hd, hi', hc, hin => by
    obtain ⟨a1, a2, a3, a4, a5, a6, a7, a8⟩ := sound0 hs
    refine Ev.succ ?_
    simp only [offertoryref09_Stats.l0, rd_nat]
    by_cases h : i < l.length
    · have hb := binN_le es (clampV lo hi (l.getD i 0))
      have hf := refBin_f lo hi most es (l.getD i 0) a3 a8
      have hcv := clampV_in a3 (l.getD i 0)
      have hw := bigInt_f (x := clampV lo hi (l.getD i 0)) (by omega)
      refine Ev.pos (by omega) (Ev.pos (by omega) (Ev.bind hf (Ev.pos (by omega) (Ev.pos (by omega) (Ev.bind0 (refClamp_f a3 most es _) (Ev.bind0 hw (Ev.bind0 (bigAdd_f S _) (Ev.bind0 (bigMul_f _ _) (Ev.bind0 (bigAdd_f Q _) ?_)))))))))
      have hg := getD_in hin (n := binN es (clampV lo hi (l.getD i 0))) (by omega)
      rw [rd_nat, w64 (x := (i : Int) + 1) (by omega), w64 (by omega)]
      have ih := refStats_l0 lo hi most es l cnt hs hlm (d - 1) (i + 1) (bump c (binN es (clampV lo hi (l.getD i 0)))) (S + clampV lo hi (l.getD i 0)) (Q + clampV lo hi (l.getD i 0) * clampV lo hi (l.getD i 0)) (by omega) (by omega) (by rw [bump_length]; exact hc) (by
        have := bump_in hin (n := binN es (clampV lo hi (l.getD i 0))) (by omega)
        intro v hv
        have := this v hv
        omega)
      rw [drop_get h, statsV_cons]
      exact ih
    · refine Ev.neg (by omega) (Ev.bind0 (bigWide_f Q) (Ev.bind0 (bigSigned_f S) (Ev.bind0 (signWide S) (Ev.some_ ?_))))
      rw [List.drop_eq_nil_of_le (by omega), statsV_nil, signBool]
  termination_by d _ _ _ _ => d
  decreasing_by all_goals omega
theorem refStats_f (lo hi most : Int) (es l : List Int) (hs : soundE lo hi most es = 0) (hlm : l.length ≤ 1000000) : Ev (fun k => offertoryref09_Stats.f k lo hi most es l) (statsV lo hi es (zeros es) l l.length 0 0) := by
  obtain ⟨a1, a2, a3, a4, a5, a6, a7, a8⟩ := sound0 hs
  unfold offertoryref09_Stats.f
  rw [w64 (by omega)]
  refine Ev.pos (by omega) (Ev.pos (by omega) ?_)
  have := refStats_l0 lo hi most es l l.length hs hlm _ 0 (zeros es) 0 0 rfl (Nat.zero_le _) (zeros_length es) (zeros_in es)
  rw [show ((es.length : Int) + 1).toNat = es.length + 1 by omega]
  exact this
end Go.Proofs.Ytdpekjffjobabaa.Plain
