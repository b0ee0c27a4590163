/- The wide numbers' products, in whole numbers. -/
import Derived.Test.YthbiijhjcoakfaaPlainBig
namespace Go.Proofs.Ythbiijhjcoakfaa.Plain
open Go.RowKit Go.Proofs.Ythbiijhjcoakfaa.PAll Go.Proofs.Ythbiijhjcoakfaa.Opn Go.Proofs.Ythbiijhjcoakfaa.Base Go.Proofs.YthbiijhjcoakfaaW.PrintWords Go.Proofs.YthbiijhjcoakfaaW.PrintLast Go.Proofs.YthbiijhjcoakfaaW.PrintMore
set_option linter.unusedVariables false
set_option linter.unusedSimpArgs false
theorem and_mask32 {x : Int} (h : W64 x) : Go.bits .and .u64 x 4294967295 = x % 4294967296 := by
  obtain ⟨h0, h1⟩ := h
  obtain ⟨n, rfl⟩ := Int.eq_ofNat_of_zero_le h0
  have := bits_and_u64_nat n 4294967295 (by omega) (by decide)
  rw [show ((4294967295 : Nat) : Int) = 4294967295 from rfl] at this
  rw [this, Nat.and_two_pow_sub_one_eq_mod n 32]
  rfl
theorem prod32 {x y : Int} (h0 : 0 ≤ x) (h1 : x ≤ 4294967295) (h2 : 0 ≤ y) (h3 : y ≤ 4294967295) : 0 ≤ x * y ∧ x * y ≤ 18446744065119617025 := by
  refine ⟨Int.mul_nonneg h0 h2, ?_⟩
  have := Int.mul_le_mul h1 h3 h2 (by omega : (0 : Int) ≤ 4294967295)
  omega
theorem mul64_f {a b : Int} (ha : W64 a) (hb : W64 b) : bits_Mul64.f a b = some (a * b / 18446744073709551616, a * b % 18446744073709551616) := by
  unfold bits_Mul64.f
  rw [and_mask32 ha, and_mask32 hb]
  unfold W64 at ha hb
  have p11 := prod32 (x := a / 4294967296) (y := b / 4294967296) (by omega) (by omega) (by omega) (by omega)
  have p10 := prod32 (x := a / 4294967296) (y := b % 4294967296) (by omega) (by omega) (by omega) (by omega)
  have p01 := prod32 (x := a % 4294967296) (y := b / 4294967296) (by omega) (by omega) (by omega) (by omega)
  have p00 := prod32 (x := a % 4294967296) (y := b % 4294967296) (by omega) (by omega) (by omega) (by omega)
  have hab : a * b = a / 4294967296 * (b / 4294967296) * 18446744073709551616 + (a / 4294967296 * (b % 4294967296) + a % 4294967296 * (b / 4294967296)) * 4294967296 + a % 4294967296 * (b % 4294967296) := by
    have e1 : a = a / 4294967296 * 4294967296 + a % 4294967296 := by omega
    have e2 : b = b / 4294967296 * 4294967296 + b % 4294967296 := by omega
    generalize a / 4294967296 = x1 at *
    generalize a % 4294967296 = x0 at *
    generalize b / 4294967296 = y1 at *
    generalize b % 4294967296 = y0 at *
    subst e1 e2
    simp only [Int.add_mul, Int.mul_add]
    have f1 : x1 * 4294967296 * (y1 * 4294967296) = x1 * y1 * 18446744073709551616 := by
      rw [Int.mul_assoc, Int.mul_left_comm 4294967296 y1, ← Int.mul_assoc]
      rfl
    have f2 : x1 * 4294967296 * y0 = x1 * y0 * 4294967296 := by rw [Int.mul_assoc, Int.mul_comm 4294967296 y0, ← Int.mul_assoc]
    have f3 : x0 * (y1 * 4294967296) = x0 * y1 * 4294967296 := by rw [← Int.mul_assoc]
    rw [f1, f2, f3]
    omega
  rw [hab]
  generalize a / 4294967296 * (b / 4294967296) = q11 at *
  generalize a / 4294967296 * (b % 4294967296) = q10 at *
  generalize a % 4294967296 * (b / 4294967296) = q01 at *
  generalize a % 4294967296 * (b % 4294967296) = q00 at *
  clear hab ha hb
  rw [wu64 (x := q00) (by omega), wu64 (x := q10) (by omega), wu64 (x := q10 + q00 / 4294967296) (by omega), wu64 (x := q11) (by omega), wu64 (x := q01) (by omega)]
  rw [and_mask32 (by unfold W64; omega)]
  obtain ⟨u, v, hu, hv, e0, hv0, hv1⟩ : ∃ u v, u = q00 / 4294967296 ∧ v = q00 % 4294967296 ∧ q00 = u * 4294967296 + v ∧ 0 ≤ v ∧ v ≤ 4294967295 := ⟨_, _, rfl, rfl, by omega, by omega, by omega⟩
  rw [← hu]
  have bu : 0 ≤ u ∧ u ≤ 4294967294 := by omega
  clear hu hv
  subst e0
  obtain ⟨t1, t0, ht1, ht0, et, b0, b1⟩ : ∃ t1 t0, t1 = (q10 + u) / 4294967296 ∧ t0 = (q10 + u) % 4294967296 ∧ q10 + u = t1 * 4294967296 + t0 ∧ 0 ≤ t0 ∧ t0 ≤ 4294967295 := ⟨_, _, rfl, rfl, by omega, by omega, by omega⟩
  rw [← ht1, ← ht0]
  have bt : 0 ≤ t1 ∧ t1 ≤ 4294967295 := by omega
  clear ht1 ht0
  rw [wu64 (x := t0 + q01) (by omega), wu64 (x := q11 + t1) (by omega)]
  obtain ⟨s1, s0, hs1, hs0, es, c0, c1⟩ : ∃ s1 s0, s1 = (t0 + q01) / 4294967296 ∧ s0 = (t0 + q01) % 4294967296 ∧ t0 + q01 = s1 * 4294967296 + s0 ∧ 0 ≤ s0 ∧ s0 ≤ 4294967295 := ⟨_, _, rfl, rfl, by omega, by omega, by omega⟩
  rw [← hs1]
  have bs : 0 ≤ s1 ∧ s1 ≤ 4294967295 := by omega
  clear hs1 hs0
  rw [wu64 (x := q11 + t1 + s1) (by omega), IntKind.wrap_u64]
  have e5 : q11 * 18446744073709551616 + (q10 + q01) * 4294967296 + (u * 4294967296 + v) = (q11 + t1 + s1) * 18446744073709551616 + (s0 * 4294967296 + v) := by omega
  rw [e5]
  refine congrArg some (Prod.ext ?_ rfl)
  show q11 + t1 + s1 = ((q11 + t1 + s1) * 18446744073709551616 + (s0 * 4294967296 + v)) / 18446744073709551616
  generalize q11 + t1 + s1 = z
  omega
theorem wMul_f {a b : Int} (ha : W64 a) (hb : W64 b) : wide_Mul.f a b = some (wd (a * b)) := by
  unfold wide_Mul.f
  rw [mul64_f ha hb]
  simp only [Option.bind_some, wd]
  have h := Int.mul_nonneg ha.1 hb.1
  have h2 := Int.mul_le_mul ha.2 hb.2 hb.1 (by omega : (0 : Int) ≤ 18446744073709551615)
  refine congrArg some (Prod.ext ?_ ?_)
  · show a * b / 18446744073709551616 = a * b / 18446744073709551616 % 18446744073709551616
    generalize a * b = c at *
    omega
  · rfl
end Go.Proofs.Ythbiijhjcoakfaa.Plain
