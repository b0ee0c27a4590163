/- WideParts, the plain law. -/
import Derived.Test.YtaldennkcafceaaPlainWideLaw
namespace Go.Proofs.Ytaldennkcafceaa.Pure
open Go.RowKit Go.Proofs.Ytaldennkcafceaa.PAll Go.Proofs.Ytaldennkcafceaa.Opn Go.Proofs.Ytaldennkcafceaa.Base Go.Proofs.Ytaldennkcafceaa.Plain Go.Proofs.YtaldennkcafceaaW.PrintWords Go.Proofs.YtaldennkcafceaaW.PrintLast Go.Proofs.YtaldennkcafceaaW.PrintMore
set_option linter.unusedVariables false
set_option linter.unusedSimpArgs false
theorem cmpU_f (a b : Int) : cmp_Compare_uint64.f a b = some (if a < b then -1 else if a > b then 1 else 0) := by
  unfold cmp_Compare_uint64.f cmp_isNaN_uint64.f
  simp only [Option.bind_some, bne_self_eq_false, Bool.false_eq_true, if_false]
  split <;> (try split) <;> rfl
/-- Which of two wide numbers is greater. -/
def ordW (a b c d : Int) : Int := if a < c then -1 else if a > c then 1 else if b < d then -1 else if b > d then 1 else 0
theorem or2 (x y : Int) : Ev (fun k => cmp_Or_int.f k [x, y]) (if x = 0 then y else x) := by
  unfold cmp_Or_int.f
  refine Ev.succ ?_
  simp only [cmp_Or_int.l0, List.length_cons, List.length_nil, Nat.zero_add]
  refine Ev.pos (by decide) (Ev.pos (by decide) (Ev.pos (by decide) ?_))
  show Ev (fun n => if x = 0 then _ else some x) _
  by_cases hx : x = 0
  · simp only [hx, if_true]
    refine Ev.succ ?_
    rw [show wrap64 (0 + 1) = 1 by unfold wrap64; decide]
    simp only [cmp_Or_int.l0, List.length_cons, List.length_nil, Nat.zero_add]
    refine Ev.pos (by decide) (Ev.pos (by decide) (Ev.pos (by decide) ?_))
    show Ev (fun n => if y = 0 then _ else some y) _
    by_cases hy : y = 0
    · simp only [hy, if_true]
      refine Ev.succ ?_
      rw [show wrap64 (1 + 1) = 2 by unfold wrap64; decide]
      simp only [cmp_Or_int.l0, List.length_cons, List.length_nil, Nat.zero_add]
      exact Ev.neg (by decide) (Ev.now _)
    · simp only [hy, if_false]
      exact Ev.now _
  · simp only [hx, if_false]
    exact Ev.now _
theorem compare_f (a b c d : Int) : Ev (fun k => wide_Compare.f k a b c d) (ordW a b c d) := by
  unfold wide_Compare.f
  refine Ev.bind0 (cmpU_f a c) (Ev.bind0 (cmpU_f b d) (Ev.bind (or2 _ _) (Ev.some_ ?_)))
  unfold ordW
  split
  · rfl
  · split
    · rfl
    · rfl
theorem ordW_turn (a b c d : Int) : ordW a b c d = - ordW c d a b := by
  unfold ordW
  split <;> split <;> (try split) <;> (try split) <;> (try split) <;> (try split) <;> omega
theorem ordW_in (a b c d : Int) : -1 ≤ ordW a b c d ∧ ordW a b c d ≤ 1 := by
  unfold ordW
  split <;> (try split) <;> (try split) <;> (try split) <;> omega
theorem WideParts (a0_0 : Int) (a0_1 : Int) (a1_0 : Int) (a1_1 : Int) (a2_0 : Int) (a2_1 : Int) (a3 : Int) (w0_0 : (Lit.int .u64 a0_0).wf = true) (w0_1 : (Lit.int .u64 a0_1).wf = true) (w1_0 : (Lit.int .u64 a1_0).wf = true) (w1_1 : (Lit.int .u64 a1_1).wf = true) (w2_0 : (Lit.int .u64 a2_0).wf = true) (w2_1 : (Lit.int .u64 a2_1).wf = true) (w3 : (Lit.int .u8 a3).wf = true) : ∃ k, offertorylaw09_WideParts.f k a0_0 a0_1 a1_0 a1_1 a2_0 a2_1 a3 = some true := by
  have h0 : W64 a0_0 := u64_of w0_0
  have h1 : W64 a0_1 := u64_of w0_1
  have h2 : W64 a1_0 := u64_of w1_0
  have h3 : W64 a1_1 := u64_of w1_1
  have h4 : W64 a2_0 := u64_of w2_0
  have h5 : W64 a2_1 := u64_of w2_1
  have h6 := u8_of w3
  have z : W64 0 := by unfold W64; omega
  have hk : wrap64 (Int.tmod a3 64) = a3 % 64 := by
    rw [Int.tmod_eq_emod_of_nonneg (by omega), w64 (by omega)]
  obtain ⟨m, hm, hm2⟩ : ∃ m : Nat, a3 % 64 = m ∧ m < 64 := ⟨(a3 % 64).toNat, by omega, by omega⟩
  refine Ev.rounds ?_
  unfold offertorylaw09_WideParts.f
  rw [hk, hm, w64 (x := 2 * (m : Int)) (by omega), wu64 (x := (m : Int)) (by omega), shl_eq (x := 1) (by omega) (by omega)]
  refine Ev.bind awake_f ?_
  simp only [if_true]
  refine Ev.bind0 (wAdd_f h0 h1 h2 h3) (Ev.bind0 (wAdd_f (wd_in _).1 (wd_in _).2 h4 h5) (Ev.bind0 (wAdd_f h2 h3 h4 h5) (Ev.bind0 (wAdd_f h0 h1 (wd_in _).1 (wd_in _).2) (Ev.pos ?_ ?_))))
  · rw [wv_wd, wv_wd]
    rw [show wd ((wv a0_0 a0_1 + wv a1_0 a1_1) % 340282366920938463463374607431768211456 + wv a2_0 a2_1) = wd (wv a0_0 a0_1 + (wv a1_0 a1_1 + wv a2_0 a2_1) % 340282366920938463463374607431768211456) from wd_mod (by omega)]
    simp
  refine Ev.bind0 (wAdd_f h0 h1 h2 h3) (Ev.bind0 (wSub_f (wd_in _).1 (wd_in _).2 h2 h3) (Ev.pos ?_ ?_))
  · rw [wv_wd, show wd ((wv a0_0 a0_1 + wv a1_0 a1_1) % 340282366920938463463374607431768211456 - wv a1_0 a1_1) = wd (wv a0_0 a0_1) from wd_mod (by omega), wd_wv h0 h1]
    simp
  refine Ev.bind0 (wShift_f h0 h1 (by omega) (by omega)) (Ev.bind0 (wShift_f (wd_in _).1 (wd_in _).2 (by omega) (by omega)) (Ev.bind0 (wShift_f h0 h1 (n := 2 * (m : Int)) (by omega) (by omega)) (Ev.pos ?_ ?_)))
  · rw [wv_wd, show ((m : Int)).toNat = m by omega, show (2 * (m : Int)).toNat = m + m by omega]
    have e : wd (wv a0_0 a0_1 * 2 ^ m % 340282366920938463463374607431768211456 * 2 ^ m) = wd (wv a0_0 a0_1 * 2 ^ (m + m)) := by
      refine wd_mod ?_
      rw [Int.pow_add, ← Int.mul_assoc]
      rw [Int.mul_emod, Int.emod_emod, ← Int.mul_emod]
    rw [e]
    simp
  refine Ev.pos (by omega) ?_
  have hp : (2 : Int) ^ m < 18446744073709551616 := by
    have h := Nat.pow_lt_pow_right (a := 2) (by decide) hm2
    have : ((2 ^ m : Nat) : Int) < ((2 ^ 64 : Nat) : Int) := Int.ofNat_lt.2 h
    rw [Int.natCast_pow] at this
    exact this
  have hp0 := two_pos m
  have hs : (1 * 2 ^ ((m : Int)).toNat) % 18446744073709551616 = (2 : Int) ^ m := by
    rw [show ((m : Int)).toNat = m by omega, Int.one_mul]
    exact Int.emod_eq_of_lt (by omega) hp
  rw [hs]
  refine Ev.bind0 (wMul_f h1 (by unfold W64; omega)) (Ev.bind0 (wShift_f z h1 (by omega) (by omega)) (Ev.pos ?_ ?_))
  · rw [show ((m : Int)).toNat = m by omega, show wv 0 a0_1 = a0_1 by unfold wv; omega]
    simp
  refine Ev.bind (compare_f _ _ _ _) (Ev.bind (compare_f _ _ _ _) (Ev.some_ ?_))
  have := ordW_in a1_0 a1_1 a0_0 a0_1
  rw [ordW_turn a0_0, w64 (by omega)]
  simp
end Go.Proofs.Ytaldennkcafceaa.Pure
