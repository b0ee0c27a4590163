/- The mean, in whole numbers; the reference's whole numbers and signs. -/
import Derived.Test.YthokkogdkpmdcaaPlainDiv
import Derived.Test.YthokkogdkpmdcaaPlainBigNeg
namespace Go.Proofs.Ythokkogdkpmdcaa.Plain
open Go.RowKit Go.Proofs.Ythokkogdkpmdcaa.PAll Go.Proofs.Ythokkogdkpmdcaa.Opn Go.Proofs.Ythokkogdkpmdcaa.Base Go.Proofs.YthokkogdkpmdcaaW.PrintWords Go.Proofs.YthokkogdkpmdcaaW.PrintLast Go.Proofs.YthokkogdkpmdcaaW.PrintMore
set_option linter.unusedVariables false
set_option linter.unusedSimpArgs false

theorem bigInt_f {x : Int} (h : -9223372036854775808 ≤ x ∧ x ≤ 9223372036854775807) : offertoryref09_Int.f x = some (digs x) := by
  unfold offertoryref09_Int.f
  rw [if_pos h]
theorem bigSign_f {v : Int} (h : -170141183460469231731687303715884105728 ≤ v ∧ v < 170141183460469231731687303715884105728) :
    ∃ d, offertoryref09_Signed.f (bigD v 0) (bigD v 1) (bigD v 2) (bigD v 3) (bigD v 4) (bigD v 5) (bigD v 6) (bigD v 7) = some d ∧ d.2.2.2.2.2.2.2.2 = decide (v < 0) := by
  unfold offertoryref09_Signed.f
  by_cases h7 : bigD v 7 ≥ 32768
  · rw [if_pos h7, bigNeg_f]
    refine ⟨_, rfl, ?_⟩
    refine (decide_eq_true ?_).symm
    unfold bigD at h7
    omega
  · rw [if_neg h7]
    refine ⟨_, rfl, ?_⟩
    refine (decide_eq_false ?_).symm
    unfold bigD at h7
    omega
/-- The mean of a sum by a count. -/
def meanV (c s : Int) (b : Bool) : Int × Int :=
  if c < 1 then (0, 1) else if b = true then (if 9223372036854775808 * c < s then (0, 4) else (-s / c, 0)) else (if 9223372036854775808 * c ≤ s then (0, 4) else (s / c, 0))
theorem neg_div {s c : Int} (hc : 0 < c) : -s / c = if s % c > 0 then - (s / c) - 1 else - (s / c) := by
  have e := Int.mul_ediv_add_emod s c
  have h0 := Int.emod_nonneg s (b := c) (by omega)
  have h1 := Int.emod_lt_of_pos s hc
  split
  · have : -s = (c - s % c) + c * (- (s / c) - 1) := by rw [Int.mul_sub, Int.mul_neg]; omega
    rw [this, Int.add_mul_ediv_left _ _ (by omega), Int.ediv_eq_zero_of_lt (by omega) (by omega), Int.zero_add]
  · have : -s = 0 + c * (- (s / c)) := by rw [Int.mul_neg]; omega
    rw [this, Int.add_mul_ediv_left _ _ (by omega), Int.zero_ediv, Int.zero_add]
theorem mean_f (l : List Int) (c hi lo q1 q2 : Int) (b : Bool) (hc : -9223372036854775808 ≤ c ∧ c ≤ 9223372036854775807) (h : W64 hi) (k : W64 lo) :
    Ev (fun k => rank_Mean.f k l c hi lo q1 q2 b) (meanV c (wv hi lo) b) := by
  unfold W64 at h k
  have hw : wv hi lo = lo + hi * 18446744073709551616 := rfl
  unfold rank_Mean.f meanV
  refine Ev.if_ (fun h1 => ?_) (fun h1 => ?_)
  · rw [if_pos h1]; exact Ev.some_ rfl
  · rw [if_neg h1, wu64 (x := c) (by omega)]
    refine Ev.if_ (fun h2 => ?_) (fun h2 => ?_)
    · rw [if_pos (show 9223372036854775808 * c < wv hi lo by omega), if_pos (show 9223372036854775808 * c ≤ wv hi lo by omega), ite_self]
      exact Ev.some_ rfl
    · refine Ev.bind (div64_f (by omega) (by omega) (by omega)) ?_
      rw [← hw, neg_div (by omega)]
      have e := Int.mul_ediv_add_emod (wv hi lo) c
      have r0 := Int.emod_nonneg (wv hi lo) (b := c) (by omega)
      have r1 := Int.emod_lt_of_pos (wv hi lo) (b := c) (by omega)
      have q0 : 0 ≤ wv hi lo / c := Int.ediv_nonneg (by omega) (by omega)
      generalize hq : wv hi lo / c = q at *
      generalize hr : wv hi lo % c = r at *
      have hcm : c * 9223372036854775808 = 9223372036854775808 * c := Int.mul_comm _ _
      refine Ev.if_ (fun hb => ?_) (fun hb => ?_)
      · rw [if_pos hb]
        have neg1 : q ≤ 9223372036854775807 → 0 < r → wrap64 (IntKind.u64.wrap (IntKind.u64.wrap (-q) - 1)) = -q - 1 := by
          intro h3 h4
          rw [IntKind.wrap_u64, IntKind.wrap_u64]
          unfold wrap64
          omega
        have neg2 : q ≤ 9223372036854775808 → wrap64 (IntKind.u64.wrap (-q)) = -q := by
          intro h3
          rw [IntKind.wrap_u64]
          unfold wrap64
          omega
        have big : 9223372036854775808 < q → 9223372036854775808 * c < wv hi lo := by
          intro h3
          have : c * 9223372036854775809 ≤ c * q := Int.mul_le_mul_of_nonneg_left (by omega) (by omega)
          omega
        have small : q < 9223372036854775808 → ¬ 9223372036854775808 * c < wv hi lo := by
          intro h3
          have : c * q ≤ c * 9223372036854775807 := Int.mul_le_mul_of_nonneg_left (by omega) (by omega)
          omega
        refine Ev.if_ (fun h3 => ?_) (fun h3 => Ev.if_ (fun h4 => ?_) (fun h4 => ?_))
        · rw [if_pos (big h3)]
          refine Ev.succ ?_
          simp only [rank_Mean.j0]
          exact Ev.pos trivial (Ev.some_ rfl)
        · replace h4 : q = 9223372036854775808 := h4
          refine Ev.succ ?_
          simp only [rank_Mean.j0]
          rw [h4] at e
          by_cases h5 : r > 0
          · rw [if_pos (show 9223372036854775808 * c < wv hi lo by omega)]
            exact Ev.pos (decide_eq_true h5) (Ev.some_ rfl)
          · rw [if_neg (show ¬ 9223372036854775808 * c < wv hi lo by omega), if_neg h5]
            refine Ev.neg (by rw [decide_eq_true_eq]; exact h5) (Ev.some_ ?_)
            rw [neg2 (by omega), if_neg h5]
        · have h3 : ¬ q > 9223372036854775808 := h3
          have h4 : ¬ q = 9223372036854775808 := h4
          rw [if_neg (small (by omega))]
          refine Ev.succ ?_
          simp only [rank_Mean.j0]
          refine Ev.neg (by simp) (Ev.if_ (fun h5 => ?_) (fun h5 => ?_))
          · rw [if_pos h5, neg1 (by omega) h5]; exact Ev.some_ rfl
          · rw [if_neg h5, neg2 (by omega)]; exact Ev.some_ rfl
      · rw [if_neg hb]
        refine Ev.if_ (fun h3 => ?_) (fun h3 => ?_)
        · have h3 : q > 9223372036854775807 := h3
          have : c * 9223372036854775808 ≤ c * q := Int.mul_le_mul_of_nonneg_left (by omega) (by omega)
          rw [if_pos (by omega)]
          exact Ev.some_ rfl
        · have h3 : ¬ q > 9223372036854775807 := h3
          have : c * q ≤ c * 9223372036854775807 := Int.mul_le_mul_of_nonneg_left (by omega) (by omega)
          rw [if_neg (by omega)]
          refine Ev.some_ ?_
          show (wrap64 q, (0 : Int)) = (q, 0)
          rw [w64 (by omega)]
end Go.Proofs.Ythokkogdkpmdcaa.Plain
