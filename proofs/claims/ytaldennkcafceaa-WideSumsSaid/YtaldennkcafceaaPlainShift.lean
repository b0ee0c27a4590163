/- Wide numbers moved up, in whole numbers: the program's and the reference's. -/
import Derived.Test.YtaldennkcafceaaPlainWide
namespace Go.Proofs.Ytaldennkcafceaa.Plain
open Go.RowKit Go.Proofs.Ytaldennkcafceaa.PAll Go.Proofs.Ytaldennkcafceaa.Opn Go.Proofs.Ytaldennkcafceaa.Base Go.Proofs.YtaldennkcafceaaW.PrintWords Go.Proofs.YtaldennkcafceaaW.PrintLast Go.Proofs.YtaldennkcafceaaW.PrintMore
set_option linter.unusedVariables false
set_option linter.unusedSimpArgs false

theorem two_pos (n : Nat) : (0 : Int) < 2 ^ n := by
  have : (0 : Nat) < 2 ^ n := Nat.pow_pos (by decide)
  exact_mod_cast this
theorem shl_eq {x y : Int} (h0 : 0 ≤ y) (h1 : y ≤ 64) : shl .u64 x y = (x * 2 ^ y.toNat) % 18446744073709551616 := by
  unfold shl
  rw [IntKind.wrap_u64, show min y.toNat IntKind.u64.bits = y.toNat by simp [IntKind.bits]; omega]
theorem shr_eq {x y : Int} (h0 : 0 ≤ y) (h1 : y ≤ 64) : shr .u64 x y = x / 2 ^ y.toNat := by
  unfold shr
  rw [show min y.toNat IntKind.u64.bits = y.toNat by simp [IntKind.bits]; omega]
/-- 'or' of a multiple of a power of two and what is below it. -/
theorem or_pow {x y : Int} {n : Nat} (h0 : 0 ≤ x) (h1 : x * 2 ^ n < 18446744073709551616) (h2 : 0 ≤ y) (h3 : y < 2 ^ n) (h4 : y < 18446744073709551616) : Go.bits .or .u64 (x * 2 ^ n) y = x * 2 ^ n + y := by
  obtain ⟨a, rfl⟩ := Int.eq_ofNat_of_zero_le h0
  obtain ⟨b, rfl⟩ := Int.eq_ofNat_of_zero_le h2
  have e : (a : Int) * 2 ^ n = ((a * 2 ^ n : Nat) : Int) := by rw [Int.natCast_mul, Int.natCast_pow]; rfl
  have h3' : b < 2 ^ n := by
    have : ((b : Nat) : Int) < ((2 ^ n : Nat) : Int) := by rw [Int.natCast_pow]; exact h3
    exact_mod_cast this
  rw [e] at h1 ⊢
  rw [bits_or_u64_nat _ _ (Int.ofNat_lt.1 h1) (by omega), ← Nat.shiftLeft_eq, ← Nat.shiftLeft_add_eq_or_of_lt h3', Nat.shiftLeft_eq, Int.natCast_add]
theorem pow_split {n m : Nat} (h : n + m = 64) : (2 : Int) ^ n * 2 ^ m = 18446744073709551616 := by
  rw [← Int.pow_add, h]; rfl
/-- What the program's Shift answers. -/
theorem wShift_f {hi lo n : Int} (a : W64 hi) (b : W64 lo) (h0 : 0 ≤ n) (h1 : n ≤ 128) : wide_Shift.f hi lo n = some (wd (wv hi lo * 2 ^ n.toNat)) := by
  obtain ⟨m, rfl⟩ := Int.eq_ofNat_of_zero_le h0
  rw [Int.toNat_natCast]
  unfold wide_Shift.f
  by_cases c1 : (m : Int) < 1
  · rw [if_pos c1]
    have : m = 0 := by omega
    subst this
    rw [Int.pow_zero, Int.mul_one, wd_wv a b]
  rw [if_neg c1]
  by_cases c2 : (m : Int) > 127
  · rw [if_pos c2]
    have : m = 128 := by omega
    subst this
    rw [show (2 : Int) ^ 128 = 340282366920938463463374607431768211456 from rfl]
    generalize wv hi lo = v
    simp only [wd, Option.some.injEq, Prod.mk.injEq]
    omega
  rw [if_neg c2]
  by_cases c3 : (m : Int) > 63
  · rw [if_pos c3, w64 (by omega), if_pos (by omega), shl_eq (by omega) (by omega)]
    rw [show ((m : Int) - 64).toNat = m - 64 by omega]
    have e : (2 : Int) ^ m = 2 ^ (m - 64) * 18446744073709551616 := by
      rw [show (18446744073709551616 : Int) = 2 ^ 64 from rfl, ← Int.pow_add, show m - 64 + 64 = m by omega]
    rw [e]
    generalize (2 : Int) ^ (m - 64) = q
    have e2 : wv hi lo * (q * 18446744073709551616) = lo * q * 18446744073709551616 + hi * q * 340282366920938463463374607431768211456 := by
      unfold wv
      rw [Int.add_mul]
      congr 1
      · rw [← Int.mul_assoc]
      · rw [Int.mul_assoc hi, Int.mul_comm 18446744073709551616 (q * 18446744073709551616), Int.mul_assoc q, ← Int.mul_assoc hi]
        rfl
    rw [e2]
    generalize lo * q = r
    generalize hi * q = s
    simp only [wd, Option.some.injEq, Prod.mk.injEq]
    omega
  rw [if_neg c3, if_pos (by omega), w64 (x := 64 - (m : Int)) (by omega), if_pos (by omega), shl_eq (by omega) (by omega), shl_eq (by omega) (by omega), shr_eq (by omega) (by omega)]
  rw [show ((m : Int)).toNat = m by omega, show (64 - (m : Int)).toNat = 64 - m by omega]
  have hs := pow_split (n := m) (m := 64 - m) (by omega)
  have hp := two_pos m
  have hq := two_pos (64 - m)
  have eh : hi * 2 ^ m % 18446744073709551616 = hi % 2 ^ (64 - m) * 2 ^ m := by
    rw [← hs, Int.mul_comm hi, Int.mul_emod_mul_of_pos _ _ hp, Int.mul_comm]
  have hlt : hi % 2 ^ (64 - m) < 2 ^ (64 - m) := Int.emod_lt_of_pos _ hq
  have hge : 0 ≤ hi % 2 ^ (64 - m) := Int.emod_nonneg _ (by omega)
  have el : lo / 2 ^ (64 - m) < 2 ^ m := by
    refine Int.ediv_lt_of_lt_mul hq ?_
    rw [hs]
    have := b.2
    omega
  have el0 : 0 ≤ lo / 2 ^ (64 - m) := Int.ediv_nonneg b.1 (by omega)
  have el1 : lo / 2 ^ (64 - m) ≤ lo := Int.ediv_le_self _ b.1
  have em : 0 ≤ hi * 2 ^ m % 18446744073709551616 ∧ hi * 2 ^ m % 18446744073709551616 < 18446744073709551616 := by omega
  rw [eh] at em ⊢
  rw [or_pow hge em.2 el0 el (by have := b.2; omega)]
  have e3 : lo * 2 ^ m / 18446744073709551616 = lo / 2 ^ (64 - m) := by
    rw [← hs, Int.mul_comm (2 ^ m) (2 ^ (64 - m)), Int.mul_ediv_mul_of_pos_left _ _ hp]
  have e4 : wv hi lo * 2 ^ m = lo * 2 ^ m + hi * 2 ^ m * 18446744073709551616 := by
    unfold wv
    rw [Int.add_mul, Int.mul_assoc hi, Int.mul_comm 18446744073709551616, ← Int.mul_assoc]
  rw [e4, ← e3, ← eh]
  have hfit : hi * 2 ^ m % 18446744073709551616 + lo * 2 ^ m / 18446744073709551616 < 18446744073709551616 := by
    rw [eh, e3]
    have h5 : hi % 2 ^ (64 - m) * 2 ^ m + 2 ^ m ≤ 2 ^ (64 - m) * 2 ^ m := by
      have := Int.mul_le_mul_of_nonneg_right (show hi % 2 ^ (64 - m) + 1 ≤ 2 ^ (64 - m) by omega) (Int.le_of_lt hp)
      rw [Int.add_mul, Int.one_mul] at this
      exact this
    rw [Int.mul_comm (2 ^ (64 - m)) (2 ^ m), hs] at h5
    omega
  generalize hi * 2 ^ m = x at *
  generalize lo * 2 ^ m = y at *
  simp only [wd, Option.some.injEq, Prod.mk.injEq]
  omega
/-- What the reference's Shift answers. -/
theorem bigShift_l0 (n : Int) (v : Int) (hn : n ≤ 9223372036854775807) : ∀ (d i : Nat) (u : Int), 128 - i = d → i ≤ 128 → ∀ s : Nat, (s : Int) = (if n < i then 0 else if n < 128 then n - i else 128 - i) →
    Ev (fun k => offertoryref09_Shift.l0 k n (i : Int) (bigD u 0) (bigD u 1) (bigD u 2) (bigD u 3) (bigD u 4) (bigD u 5) (bigD u 6) (bigD u 7)) (digs (u * 2 ^ s))
  | d, i, u, hd, hi, s, hs => by
    refine Ev.succ ?_
    simp only [offertoryref09_Shift.l0]
    by_cases h : (i : Int) < n
    · by_cases h2 : (i : Int) < 128
      · refine Ev.pos h (Ev.pos h2 (Ev.bind0 (bigAdd_f u u) ?_))
        simp only [digs]
        rw [w64 (by omega)]
        have hs1 : 1 ≤ s := by
          rw [if_neg (by omega)] at hs
          split at hs <;> omega
        have ih := bigShift_l0 n v hn (d - 1) (i + 1) (u + u) (by omega) (by omega) (s - 1) (by
          rw [if_neg (by omega)] at hs
          rw [if_neg (by omega)]
          split at hs
          · rename_i h3; rw [if_pos h3]; omega
          · rename_i h3; rw [if_neg h3]; omega)
        have e : (u + u) * 2 ^ (s - 1) = u * 2 ^ s := by
          obtain ⟨t, rfl⟩ : ∃ t, s = t + 1 := ⟨s - 1, by omega⟩
          rw [show t + 1 - 1 = t by omega, Int.pow_succ, ← Int.two_mul, Int.mul_comm 2 u, Int.mul_assoc, Int.mul_comm 2]
        rw [e] at ih
        exact ih
      · refine Ev.pos h (Ev.neg h2 (Ev.some_ ?_))
        have : s = 0 := by
          rw [if_neg (by omega)] at hs
          split at hs <;> omega
        subst this
        rw [Int.pow_zero, Int.mul_one]; rfl
    · refine Ev.neg h (Ev.some_ ?_)
      have : s = 0 := by
        split at hs
        · omega
        · split at hs <;> omega
      subst this
      rw [Int.pow_zero, Int.mul_one]; rfl
  termination_by d _ _ => d
  decreasing_by all_goals omega
theorem bigShift_f (n v : Int) (hn : n ≤ 9223372036854775807) (s : Nat) (hs : (s : Int) = if n < 0 then 0 else if n < 128 then n else 128) :
    Ev (fun k => offertoryref09_Shift.f k (bigD v 0) (bigD v 1) (bigD v 2) (bigD v 3) (bigD v 4) (bigD v 5) (bigD v 6) (bigD v 7) n) (digs (v * 2 ^ s)) :=
  bigShift_l0 n v hn _ 0 v rfl (by omega) s (by simpa using hs)
end Go.Proofs.Ytaldennkcafceaa.Plain
