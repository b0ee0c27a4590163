/- CrowdParts, without the program. -/
import Derived.Test.YtegifiagobienaaDoorPlainCrowdSet
namespace Go.Proofs.YtegifiagobienaaDoor.Pure
open Go.RowKit Go.Proofs.YtegifiagobienaaDoor.PAll Go.Proofs.YtegifiagobienaaDoor.Opn Go.Proofs.YtegifiagobienaaDoor.Base Go.Proofs.YtegifiagobienaaDoor.Plain Go.Proofs.YtegifiagobienaaDoorW.PrintWords Go.Proofs.YtegifiagobienaaDoorW.PrintLast Go.Proofs.YtegifiagobienaaDoorW.PrintMore
set_option linter.unusedVariables false

theorem cnt_parts : ∀ (n a b : Nat), cnt n (a &&& b) + cnt n (less a b) = cnt n a
  | 0, _, _ => rfl
  | n + 1, a, b => by
    have ih := cnt_parts n (a / 2) (b / 2)
    have e1 : (a &&& b) / 2 = (a / 2) &&& (b / 2) := by
      apply Nat.eq_of_testBit_eq; intro i
      rw [← Nat.testBit_succ, Nat.testBit_and, Nat.testBit_and, Nat.testBit_succ, Nat.testBit_succ]
    have e2 : less a b / 2 = less (a / 2) (b / 2) := by
      apply Nat.eq_of_testBit_eq; intro i
      rw [← Nat.testBit_succ, less_bit, less_bit, Nat.testBit_succ, Nat.testBit_succ]
    have e3 : (a &&& b) % 2 + less a b % 2 = a % 2 := by
      have h1 := Nat.testBit_and a b 0
      have h2 := less_bit a b 0
      rw [Nat.testBit_zero, Nat.testBit_zero, Nat.testBit_zero] at h1
      rw [Nat.testBit_zero, Nat.testBit_zero, Nat.testBit_zero] at h2
      rcases Nat.mod_two_eq_zero_or_one a with ha | ha <;> rcases Nat.mod_two_eq_zero_or_one b with hb | hb <;> rcases Nat.mod_two_eq_zero_or_one (a &&& b) with hp | hp <;> rcases Nat.mod_two_eq_zero_or_one (less a b) with hq | hq <;> simp only [ha, hb, hp, hq] at h1 h2 ⊢ <;> first | rfl | (exact absurd h1 (by decide)) | (exact absurd h2 (by decide))
    unfold cnt
    rw [e1, e2]
    omega
theorem CrowdParts (a0 : Int) (a1 : Int) (a2 : Int) (w0 : (Lit.int .u64 a0).wf = true) (w1 : (Lit.int .u64 a1).wf = true) (w2 : (Lit.int .i64 a2).wf = true) : ∃ k, offertorylaw18_CrowdParts.f k a0 a1 a2 = some true := by
  have b0 := u64_of w0
  have b1 := u64_of w1
  obtain ⟨a, rfl⟩ := Int.eq_ofNat_of_zero_le b0.1
  obtain ⟨b, rfl⟩ := Int.eq_ofNat_of_zero_le b1.1
  have ha : a < 18446744073709551616 := by omega
  have hb : b < 18446744073709551616 := by omega
  have hs : (L (a &&& b)).length + (L (less a b)).length = (L a).length := by
    unfold L; rw [lst_length, lst_length, lst_length]; exact cnt_parts 64 a b
  have hl := L_len a
  refine Ev.rounds (g := fun k => offertorylaw18_CrowdParts.f k a b a2) ?_
  unfold offertorylaw18_CrowdParts.f
  refine Ev.bind awake_f ?_
  refine Ev.pos rfl ?_
  simp only [bits_and_u64_nat a b ha hb, bits_andNot_nat a b ha hb]
  refine Ev.bind0 (size_f _ (and_lt a b ha)) (Ev.bind0 (size_f _ (less_lt a b ha)) (Ev.bind0 (size_f a ha) ?_))
  refine Ev.pos (by rw [w64 (by omega)]; omega) ?_
  refine Ev.bind0 (within_f _ _ (and_lt a b ha) ha) ?_
  refine Ev.pos (inB_of fun i h => by rw [Nat.testBit_and] at h; simp at h; exact h.1) ?_
  refine Ev.bind0 (within_f _ _ (and_lt a b ha) hb) ?_
  refine Ev.pos (inB_of fun i h => by rw [Nat.testBit_and] at h; simp at h; exact h.2) ?_
  refine Ev.bind0 (within_f _ _ (less_lt a b ha) ha) ?_
  refine Ev.pos (inB_of fun i h => by rw [less_bit] at h; simp at h; exact h.1) ?_
  refine Ev.bind0 (hass_f a a2 ha) (Ev.bind0 (hass_f _ a2 (and_lt a b ha)) ?_)
  have hin : inB a b = (((less a b : Nat) : Int) == 0) := by
    unfold inB
    by_cases h : less a b = 0
    · rw [h]; rfl
    · simp [h]
  have hor : hasB a a2 = (hasB (a &&& b) a2 || hasB (less a b) a2) := by
    unfold hasB
    rw [Nat.testBit_and, less_bit]
    cases decide (1 ≤ a2 ∧ a2 ≤ 64) <;> cases a.testBit (a2 - 1).toNat <;> cases b.testBit (a2 - 1).toNat <;> rfl
  refine Ev.if_ (fun h => ?_) (fun h => ?_)
  · refine Ev.pos (by rw [hor, h]; rfl) ?_
    refine Ev.bind0 (within_f a b ha hb) (Ev.some_ ?_)
    rw [hin]; simp
  · refine Ev.bind0 (hass_f _ a2 (less_lt a b ha)) ?_
    refine Ev.pos (by rw [hor, Bool.eq_false_iff.2 h]; simp) ?_
    refine Ev.bind0 (within_f a b ha hb) (Ev.some_ ?_)
    rw [hin]; simp
end Go.Proofs.YtegifiagobienaaDoor.Pure
