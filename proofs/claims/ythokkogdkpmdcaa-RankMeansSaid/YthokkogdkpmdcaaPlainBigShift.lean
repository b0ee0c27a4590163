/- The reference's numbers, moved up. -/
import Derived.Test.YthokkogdkpmdcaaPlainBig
namespace Go.Proofs.Ythokkogdkpmdcaa.Plain
open Go.RowKit Go.Proofs.Ythokkogdkpmdcaa.PAll Go.Proofs.Ythokkogdkpmdcaa.Opn Go.Proofs.Ythokkogdkpmdcaa.Base Go.Proofs.YthokkogdkpmdcaaW.PrintWords Go.Proofs.YthokkogdkpmdcaaW.PrintLast Go.Proofs.YthokkogdkpmdcaaW.PrintMore
set_option linter.unusedVariables false
set_option linter.unusedSimpArgs false

/-- What the reference's Shift answers. -/
theorem bigShift_l0 (n : Int) (v : Int) (hn : n ≤ 9223372036854775807) : ∀ (d i : Nat) (u : Int), 128 - i = d → i ≤ 128 → ∀ s : Nat, (s : Int) = (if n < i then 0 else if n < 128 then n - i else 128 - i) →
    Ev (fun k => offertoryref09_Shift.l0 k n (i : Int) (bigD u 0) (bigD u 1) (bigD u 2) (bigD u 3) (bigD u 4) (bigD u 5) (bigD u 6) (bigD u 7)) (digs (u * 2 ^ s))
  | d, i, u, hd, hi, s, hs => by
    refine Ev.succ ?_
    simp only [offertoryref09_Shift.l0]
    by_cases h : (i : Int) < n
    · by_cases h2 : (i : Int) < 128
      · refine Ev.pos h (Ev.pos h2 (Ev.bind0 (bigAdd_f u u) ?_))
        simp only [digs]
        rw [w64 (by omega)]
        have hs1 : 1 ≤ s := by
          rw [if_neg (by omega)] at hs
          split at hs <;> omega
        have ih := bigShift_l0 n v hn (d - 1) (i + 1) (u + u) (by omega) (by omega) (s - 1) (by
          rw [if_neg (by omega)] at hs
          rw [if_neg (by omega)]
          split at hs
          · rename_i h3; rw [if_pos h3]; omega
          · rename_i h3; rw [if_neg h3]; omega)
        have e : (u + u) * 2 ^ (s - 1) = u * 2 ^ s := by
          obtain ⟨t, rfl⟩ : ∃ t, s = t + 1 := ⟨s - 1, by omega⟩
          rw [show t + 1 - 1 = t by omega, Int.pow_succ, ← Int.two_mul, Int.mul_comm 2 u, Int.mul_assoc, Int.mul_comm 2]
        rw [e] at ih
        exact ih
      · refine Ev.pos h (Ev.neg h2 (Ev.some_ ?_))
        have : s = 0 := by
          rw [if_neg (by omega)] at hs
          split at hs <;> omega
        subst this
        rw [Int.pow_zero, Int.mul_one]; rfl
    · refine Ev.neg h (Ev.some_ ?_)
      have : s = 0 := by
        split at hs
        · omega
        · split at hs <;> omega
      subst this
      rw [Int.pow_zero, Int.mul_one]; rfl
  termination_by d _ _ => d
  decreasing_by all_goals omega
theorem bigShift_f (n v : Int) (hn : n ≤ 9223372036854775807) (s : Nat) (hs : (s : Int) = if n < 0 then 0 else if n < 128 then n else 128) :
    Ev (fun k => offertoryref09_Shift.f k (bigD v 0) (bigD v 1) (bigD v 2) (bigD v 3) (bigD v 4) (bigD v 5) (bigD v 6) (bigD v 7) n) (digs (v * 2 ^ s)) :=
  bigShift_l0 n v hn _ 0 v rfl (by omega) s (by simpa using hs)
end Go.Proofs.Ythokkogdkpmdcaa.Plain
