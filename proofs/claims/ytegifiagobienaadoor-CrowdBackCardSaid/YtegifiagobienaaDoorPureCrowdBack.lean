/- CrowdBack, without the program. -/
import Derived.Test.YtegifiagobienaaDoorPlainCrowdSet
namespace Go.Proofs.YtegifiagobienaaDoor.Pure
open Go.RowKit Go.Proofs.YtegifiagobienaaDoor.PAll Go.Proofs.YtegifiagobienaaDoor.Opn Go.Proofs.YtegifiagobienaaDoor.Base Go.Proofs.YtegifiagobienaaDoor.Plain Go.Proofs.YtegifiagobienaaDoorW.PrintWords Go.Proofs.YtegifiagobienaaDoorW.PrintLast Go.Proofs.YtegifiagobienaaDoorW.PrintMore
set_option linter.unusedVariables false

/-- The second loop: what is left to take in are the bits from p on. -/
theorem back_l1 (c : Nat) (hc : c < 18446744073709551616) : ∀ (n p i : Nat), p + n = 64 → (L c).drop i = lst n p (c / 2 ^ p) → i ≤ (L c).length →
    Ev (fun k => crowd_Of.l1 k ((c % 2 ^ p : Nat) : Int) (L c) ((L c).length : Int) (i : Int)) ((c : Int), 0) := by
  have hL := L_len c
  intro n
  induction n with
  | zero =>
    intro p i hp hd hi
    have : i = (L c).length := by
      have := congrArg List.length hd
      rw [List.length_drop] at this
      simp only [lst, List.length_nil] at this
      omega
    subst this
    refine Ev.succ ?_
    simp only [crowd_Of.l1]
    refine Ev.neg (by omega) (Ev.some_ ?_)
    rw [show p = 64 by omega, Nat.mod_eq_of_lt (by show c < 2 ^ 64; omega)]
  | succ n ih =>
    intro p i hp hd hi
    have hl : lst (n + 1) p (c / 2 ^ p) = if c / 2 ^ p % 2 = 1 then ((p : Int) + 1) :: lst n (p + 1) (c / 2 ^ p / 2) else lst n (p + 1) (c / 2 ^ p / 2) := rfl
    have e3 : c / 2 ^ p / 2 = c / 2 ^ (p + 1) := by rw [Nat.div_div_eq_div_mul, Nat.pow_succ]
    have em : c % 2 ^ (p + 1) = c % 2 ^ p + 2 ^ p * (c / 2 ^ p % 2) := by rw [Nat.pow_succ, Nat.mod_mul]
    rw [hl, e3] at hd
    by_cases hb : c / 2 ^ p % 2 = 1
    · rw [if_pos hb] at hd
      have hlt : i < (L c).length := by
        apply Decidable.byContradiction
        intro hn
        rw [List.drop_eq_nil_of_le (by omega)] at hd
        cases hd
      have hget : rd (L c) (i : Int) = (p : Int) + 1 := by
        rw [rd_get _ i hlt]
        have := List.drop_eq_getElem_cons hlt
        rw [this] at hd
        exact (List.cons.inj hd).1
      have hnext : (L c).drop (i + 1) = lst n (p + 1) (c / 2 ^ (p + 1)) := by
        have := List.drop_eq_getElem_cons hlt
        rw [this] at hd
        exact (List.cons.inj hd).2
      have hm : c % 2 ^ p < 2 ^ p := Nat.mod_lt _ (Nat.pow_pos (by decide))
      have hp63 := two_le_nat (a := p) (b := 63) (by omega)
      refine Ev.succ ?_
      simp only [crowd_Of.l1]
      refine Ev.pos (by omega) (Ev.pos (by omega) (Ev.pos (by omega) ?_))
      rw [hget]
      refine Ev.bind0 (has_f _ _ (by omega)) ?_
      have hno : hasB (c % 2 ^ p) ((p : Int) + 1) = false := by
        unfold hasB
        rw [show ((p : Int) + 1 - 1).toNat = p by omega, Nat.testBit_lt_two_pow hm, Bool.and_false]
      rw [hno]
      refine Ev.neg (by decide) (Ev.bind0 (bit_f' p (by omega)) ?_)
      rw [bits_or_u64_nat _ _ (by omega) (by omega), w64 (by omega)]
      have eor : c % 2 ^ p ||| 2 ^ p = c % 2 ^ (p + 1) := by
        rw [em, hb, Nat.mul_one, Nat.add_comm, Nat.or_comm]
        have := Nat.two_pow_add_eq_or_of_lt hm 1
        rw [Nat.mul_one] at this
        exact this.symm
      rw [eor]
      exact ih (p + 1) (i + 1) (by omega) hnext (by omega)
    · rw [if_neg hb] at hd
      have := ih (p + 1) i (by omega) hd hi
      rw [em, show c / 2 ^ p % 2 = 0 by omega, Nat.mul_zero, Nat.add_zero] at this
      exact this
theorem back_l0 (c : Nat) (hc : c < 18446744073709551616) : ∀ (d i : Nat), i + d = (L c).length → Ev (fun k => crowd_Of.l0 k (L c) 0 (L c) ((L c).length : Int) (i : Int)) ((c : Int), 0) := by
  have hL := L_len c
  intro d
  induction d with
  | zero =>
    intro i hi
    refine Ev.succ ?_
    simp only [crowd_Of.l0]
    refine Ev.neg (by omega) ?_
    have := back_l1 c hc 64 0 0 (by omega) (by rw [Nat.pow_zero, Nat.div_one]; rfl) (by omega)
    rw [Nat.pow_zero, Nat.mod_one] at this
    exact this
  | succ d ih =>
    intro i hi
    have hm := rd_mem (L c) i (by omega)
    rw [mem_L] at hm
    obtain ⟨j, hj, _, e⟩ := hm
    refine Ev.succ ?_
    simp only [crowd_Of.l0]
    refine Ev.pos (by omega) (Ev.pos (by omega) (Ev.pos (by omega) (Ev.neg (by omega) (Ev.neg (by omega) ?_))))
    rw [w64 (by omega)]
    exact ih (i + 1) (by omega)
theorem CrowdBack (a0 : Int) (w0 : (Lit.int .u64 a0).wf = true) : ∃ k, offertorylaw18_CrowdBack.f k a0 = some true := by
  have b0 := u64_of w0
  obtain ⟨c, rfl⟩ := Int.eq_ofNat_of_zero_le b0.1
  have hc : c < 18446744073709551616 := by omega
  refine Ev.rounds (g := fun k => offertorylaw18_CrowdBack.f k c) ?_
  unfold offertorylaw18_CrowdBack.f
  refine Ev.bind (list_f c hc) (Ev.bind (a := ((c : Int), 0)) ?_ (Ev.bind awake_f (Ev.pos rfl ?_)))
  · unfold crowd_Of.f
    exact back_l0 c hc (L c).length 0 (by omega)
  · refine Ev.pos rfl (Ev.pos rfl (Ev.bind0 (within_f c c hc hc) (Ev.pos (inB_of fun i h => h) ?_)))
    obtain ⟨m, hm, hf, he⟩ := all_f 64
    obtain rfl : m = 64 := by rw [if_neg (by decide), if_neg (by decide)] at he; omega
    refine Ev.bind0 hf (Ev.bind0 (within_f c (2 ^ 64 - 1) hc (by decide)) (Ev.pos (inB_of fun i h => ?_) (Ev.bind0 (within_f 0 c (by decide) hc) (Ev.some_ (inB_of fun i h => ?_)))))
    · rw [Nat.testBit_two_pow_sub_one]
      refine decide_eq_true ?_
      apply Decidable.byContradiction
      intro hn
      rw [high_bit hc (by omega)] at h
      cases h
    · rw [Nat.zero_testBit] at h; cases h
end Go.Proofs.YtegifiagobienaaDoor.Pure
