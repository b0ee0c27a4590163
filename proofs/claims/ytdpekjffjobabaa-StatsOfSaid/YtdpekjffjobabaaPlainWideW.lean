/- The wide numbers' sums, products and signs, in whole numbers by 2^128. -/
import Derived.Test.YtdpekjffjobabaaPlainWide
namespace Go.Proofs.Ytdpekjffjobabaa.Plain
open Go.RowKit Go.Proofs.Ytdpekjffjobabaa.PAll Go.Proofs.Ytdpekjffjobabaa.Opn Go.Proofs.Ytdpekjffjobabaa.Base Go.Proofs.YtdpekjffjobabaaW.PrintWords Go.Proofs.YtdpekjffjobabaaW.PrintLast Go.Proofs.YtdpekjffjobabaaW.PrintMore
set_option linter.unusedVariables false
set_option linter.unusedSimpArgs false
theorem add_w (u v : Int) : wide_Add.f (wd u).1 (wd u).2 (wd v).1 (wd v).2 = some (wd (u + v)) := by
  rw [wAdd_f (wd_in u).1 (wd_in u).2 (wd_in v).1 (wd_in v).2, wv_wd, wv_wd]
  congr 1
  exact wd_mod (by omega)
theorem neg_w (u : Int) : wide_Neg.f (wd u).1 (wd u).2 = some (wd (-u)) := by
  rw [wNeg_f (wd_in u).1 (wd_in u).2, wv_wd]
  congr 1
  exact wd_mod (by omega)
theorem of_w {x : Int} (h : -9223372036854775808 ≤ x ∧ x ≤ 9223372036854775807) : stats_of.f x = some (wd x) := by
  unfold stats_of.f
  rw [IntKind.wrap_u64]
  split
  · refine congrArg some (Prod.ext ?_ rfl)
    show (18446744073709551615 : Int) = x / 18446744073709551616 % 18446744073709551616
    omega
  · refine congrArg some (Prod.ext ?_ rfl)
    show (0 : Int) = x / 18446744073709551616 % 18446744073709551616
    omega
theorem product_w (u v : Int) : stats_product.f (wd u).1 (wd u).2 (wd v).1 (wd v).2 = some (wd (u * v)) := by
  unfold stats_product.f
  rw [wMul_f (wd_in u).2 (wd_in v).2]
  simp only [Option.bind_some]
  have e : wd (u * v) = wd (wv (wd u).1 (wd u).2 * wv (wd v).1 (wd v).2) := by
    rw [wv_wd, wv_wd]
    exact wd_mod (mod_mul u v _).symm
  rw [e]
  generalize (wd u).1 = a1
  generalize (wd u).2 = a0
  generalize (wd v).1 = b1
  generalize (wd v).2 = b0
  have hx : wv a1 a0 * wv b1 b0 = a0 * b0 + (a1 * b0 + a0 * b1) * 18446744073709551616 + a1 * b1 * 340282366920938463463374607431768211456 := by
    unfold wv
    simp only [Int.add_mul, Int.mul_add]
    have f1 : a1 * 18446744073709551616 * (b1 * 18446744073709551616) = a1 * b1 * 340282366920938463463374607431768211456 := by
      rw [Int.mul_assoc, Int.mul_left_comm 18446744073709551616 b1, ← Int.mul_assoc]
      rfl
    have f2 : a1 * 18446744073709551616 * b0 = a1 * b0 * 18446744073709551616 := by rw [Int.mul_assoc, Int.mul_comm 18446744073709551616 b0, ← Int.mul_assoc]
    have f3 : a0 * (b1 * 18446744073709551616) = a0 * b1 * 18446744073709551616 := by rw [← Int.mul_assoc]
    rw [f1, f2, f3]
    omega
  rw [hx, IntKind.wrap_u64, IntKind.wrap_u64, IntKind.wrap_u64, IntKind.wrap_u64]
  generalize a0 * b0 = p
  generalize a1 * b0 = q
  generalize a0 * b1 = r
  generalize a1 * b1 = s
  simp only [wd, Option.some.injEq, Prod.mk.injEq]
  omega
/-- A number by 2^128 that counts as below 0. -/
def negB (u : Int) : Bool := decide (170141183460469231731687303715884105728 ≤ u % 340282366920938463463374607431768211456)
theorem and_top {x : Int} (h : W64 x) : (Go.bits .and .u64 x 9223372036854775808 = 0) ↔ x < 9223372036854775808 := by
  obtain ⟨h0, h1⟩ := h
  obtain ⟨n, rfl⟩ := Int.eq_ofNat_of_zero_le h0
  have e := bits_and_u64_nat n 9223372036854775808 (by omega) (by decide)
  rw [show ((9223372036854775808 : Nat) : Int) = 9223372036854775808 from rfl] at e
  have d1 : (n &&& 9223372036854775808) / 9223372036854775808 = n / 9223372036854775808 % 2 := by
    have := Nat.and_div_two_pow (a := n) (b := 2 ^ 63) (n := 63)
    rw [show (2 : Nat) ^ 63 = 9223372036854775808 from rfl, show 9223372036854775808 / 9223372036854775808 = 1 from rfl, Nat.and_one_is_mod] at this
    exact this
  have d2 : (n &&& 9223372036854775808) % 9223372036854775808 = 0 := by
    have := Nat.and_mod_two_pow (a := n) (b := 2 ^ 63) (n := 63)
    rw [show (2 : Nat) ^ 63 = 9223372036854775808 from rfl, show 9223372036854775808 % 9223372036854775808 = 0 from rfl, Nat.and_zero] at this
    exact this
  rw [e]
  generalize n &&& 9223372036854775808 = m at *
  constructor
  · intro hm; omega
  · intro hm; omega
theorem signed_w (u : Int) : stats_signed.f (wd u).1 (wd u).2 = some (if negB u = true then ((wd (-u)).1, (wd (-u)).2, true) else ((wd u).1, (wd u).2, false)) := by
  unfold stats_signed.f
  have ht := and_top (wd_in u).1
  have hn : negB u = true ↔ ¬ (wd u).1 < 9223372036854775808 := by
    unfold negB
    rw [decide_eq_true_eq]
    simp only [wd]
    omega
  by_cases h : (wd u).1 < 9223372036854775808
  · rw [if_pos (ht.2 h), if_neg (by rw [hn]; exact fun x => x h)]
  · rw [if_neg (fun x => h (ht.1 x)), neg_w, if_pos (hn.2 h)]
    rfl
end Go.Proofs.Ytdpekjffjobabaa.Plain
