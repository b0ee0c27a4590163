/- WideShifts, the plain law. -/
import Derived.Test.YtaldennkcafceaaPlainWideLaw
namespace Go.Proofs.Ytaldennkcafceaa.Pure
open Go.RowKit Go.Proofs.Ytaldennkcafceaa.PAll Go.Proofs.Ytaldennkcafceaa.Opn Go.Proofs.Ytaldennkcafceaa.Base Go.Proofs.Ytaldennkcafceaa.Plain Go.Proofs.YtaldennkcafceaaW.PrintWords Go.Proofs.YtaldennkcafceaaW.PrintLast Go.Proofs.YtaldennkcafceaaW.PrintMore
set_option linter.unusedVariables false
set_option linter.unusedSimpArgs false
theorem shift_any {hi lo n : Int} (a : W64 hi) (b : W64 lo) (hn : -9223372036854775808 ≤ n ∧ n ≤ 9223372036854775807) : ∃ s : Nat, (s : Int) = (if n < 0 then 0 else if n < 128 then n else 128) ∧ wide_Shift.f hi lo n = some (wd (wv hi lo * 2 ^ s)) := by
  by_cases h0 : n < 0
  · refine ⟨0, by rw [if_pos h0]; rfl, ?_⟩
    rw [Int.pow_zero, Int.mul_one, wd_wv a b]
    unfold wide_Shift.f
    rw [if_pos (by omega)]
  · by_cases h1 : n < 128
    · refine ⟨n.toNat, by rw [if_neg h0, if_pos h1]; omega, wShift_f a b (by omega) (by omega)⟩
    · refine ⟨128, by rw [if_neg h0, if_neg h1]; rfl, ?_⟩
      have h := wShift_f a b (n := 128) (by omega) (by omega)
      rw [show (128 : Int).toNat = 128 from rfl] at h
      rw [← h]
      unfold wide_Shift.f
      rw [if_neg (by omega), if_pos (by omega), if_neg (by omega), if_pos (by omega)]
theorem WideShifts (a0_0 : Int) (a0_1 : Int) (a1 : Int) (w0_0 : (Lit.int .u64 a0_0).wf = true) (w0_1 : (Lit.int .u64 a0_1).wf = true) (w1 : (Lit.int .i64 a1).wf = true) : ∃ k, offertorylaw09_WideShifts.f k a0_0 a0_1 a1 = some true := by
  have h0 : W64 a0_0 := u64_of w0_0
  have h1 : W64 a0_1 := u64_of w0_1
  have h2 := i64_of w1
  obtain ⟨s, hs, hf⟩ := shift_any h0 h1 h2
  refine Ev.rounds ?_
  unfold offertorylaw09_WideShifts.f
  refine Ev.bind awake_f ?_
  simp only [if_true]
  refine Ev.bind0 hf (Ev.bind0 (of_f h0 h1) ?_)
  simp only [digs]
  refine Ev.bind (bigShift_f a1 (wv a0_0 a0_1) (by omega) s hs) ?_
  simp only [digs]
  refine Ev.bind0 (bigWide_f _) (Ev.some_ ?_)
  simp
end Go.Proofs.Ytaldennkcafceaa.Pure
