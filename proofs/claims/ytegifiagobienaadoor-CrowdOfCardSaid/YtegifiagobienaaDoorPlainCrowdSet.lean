/- What the other printed functions of crowd answer, on sets as bits. -/
import Derived.Test.YtegifiagobienaaDoorPlainCrowd
namespace Go.Proofs.YtegifiagobienaaDoor.Plain
open Go.RowKit Go.Proofs.YtegifiagobienaaDoor.PAll Go.Proofs.YtegifiagobienaaDoor.Opn Go.Proofs.YtegifiagobienaaDoor.Base Go.Proofs.YtegifiagobienaaDoorW.PrintWords Go.Proofs.YtegifiagobienaaDoorW.PrintLast Go.Proofs.YtegifiagobienaaDoorW.PrintMore
set_option linter.unusedVariables false
set_option linter.unusedSimpArgs false

theorem pow_nat (m : Nat) : (2 : Int) ^ m = ((2 ^ m : Nat) : Int) := by rw [Int.natCast_pow]; rfl
theorem two_le_nat {a b : Nat} (h : a ≤ b) : (2 : Nat) ^ a ≤ 2 ^ b := Nat.pow_le_pow_right (by decide) h
theorem bit_f (m : Nat) (h : m ≤ 64) : crowd_bit.f ((m : Int) + 1) = some (((2 ^ m % 18446744073709551616 : Nat)) : Int) := by
  unfold crowd_bit.f
  rw [w64 (by omega), if_pos (by omega), shl_eq (by omega) (by omega), Int.one_mul, show ((m : Int) + 1 - 1).toNat = m by omega, pow_nat]
  rfl
theorem bit_lt (m : Nat) (h : m < 64) : 2 ^ m % 18446744073709551616 = 2 ^ m := by
  have := two_le_nat (a := m) (b := 63) (by omega)
  exact Nat.mod_eq_of_lt (by omega)
theorem bit_f' (m : Nat) (h : m < 64) : crowd_bit.f ((m : Int) + 1) = some (((2 ^ m : Nat)) : Int) := by rw [bit_f m (by omega), bit_lt m h]
theorem and_bit (x m : Nat) : (x &&& 2 ^ m = 0) ↔ x.testBit m = false := by
  constructor
  · intro h
    have := congrArg (fun y => Nat.testBit y m) h
    simpa [Nat.testBit_and, Nat.testBit_two_pow] using this
  · intro h
    apply Nat.eq_of_testBit_eq
    intro i
    rw [Nat.testBit_and, Nat.testBit_two_pow, Nat.zero_testBit]
    by_cases hi : m = i
    · subst hi; simp [h]
    · simp [hi]
/-- Is a number in a set? -/
def hasB (x : Nat) (n : Int) : Bool := decide (1 ≤ n ∧ n ≤ 64) && x.testBit (n - 1).toNat
theorem has_f (x : Nat) (n : Int) (hx : x < 18446744073709551616) : crowd_set_has.f (x : Int) n = some (hasB x n) := by
  unfold crowd_set_has.f hasB
  by_cases h1 : n ≥ 1
  · rw [if_pos h1]
    by_cases h2 : n ≤ 64
    · rw [if_pos h2]
      obtain ⟨m, rfl⟩ : ∃ m : Nat, n = (m : Int) + 1 := ⟨(n - 1).toNat, by omega⟩
      have hm : m < 64 := by omega
      have hp := two_le_nat (a := m) (b := 63) (by omega)
      rw [bit_f' m hm]
      simp only [Option.bind_some, Option.some.injEq]
      rw [bits_and_u64_nat x _ hx (by omega), show ((m : Int) + 1 - 1).toNat = m by omega]
      have := and_bit x m
      rw [show decide ((1 : Int) ≤ (m : Int) + 1 ∧ (m : Int) + 1 ≤ 64) = true by simp; omega, Bool.true_and]
      cases hb : x.testBit m
      · rw [this.2 hb]; rfl
      · have hne : x &&& 2 ^ m ≠ 0 := fun h => by rw [this.1 h] at hb; cases hb
        simp only [bne_iff_ne, ne_eq]
        omega
    · rw [if_neg h2]; simp [h2]
  · rw [if_neg h1]; simp; omega
theorem hass_f (x : Nat) (n : Int) (hx : x < 18446744073709551616) : crowd_Has.f (x : Int) n = some (hasB x n) := by
  unfold crowd_Has.f; rw [has_f x n hx]; rfl
theorem size_f (x : Nat) (hx : x < 18446744073709551616) : crowd_Size.f (x : Int) = some ((L x).length : Int) := by
  unfold crowd_Size.f; rw [ones_f x hx]; rfl
/-- What is in the first and not in the second. -/
def less (a b : Nat) : Nat := a ^^^ (a &&& b)
theorem less_bit (a b i : Nat) : (less a b).testBit i = (a.testBit i && !b.testBit i) := by
  unfold less
  rw [Nat.testBit_xor, Nat.testBit_and]
  cases a.testBit i <;> cases b.testBit i <;> rfl
theorem lt_of_bits (x : Nat) (h : ∀ i, 64 ≤ i → x.testBit i = false) : x < 18446744073709551616 := Nat.lt_pow_two_of_testBit x (n := 64) (fun i hi => h i hi)
theorem high_bit {x i : Nat} (hx : x < 18446744073709551616) (hi : 64 ≤ i) : x.testBit i = false := by
  refine Nat.testBit_lt_two_pow ?_
  have := two_le_nat hi
  have : (2 : Nat) ^ 64 = 18446744073709551616 := rfl
  omega
theorem less_lt (a b : Nat) (ha : a < 18446744073709551616) : less a b < 18446744073709551616 :=
  lt_of_bits _ fun i hi => by rw [less_bit, high_bit ha hi]; rfl
theorem and_lt (a b : Nat) (ha : a < 18446744073709551616) : a &&& b < 18446744073709551616 := Nat.lt_of_le_of_lt Nat.and_le_left ha
theorem bits_andNot_nat (a b : Nat) (ha : a < 18446744073709551616) (hb : b < 18446744073709551616) : Go.bits .andNot .u64 (a : Int) (b : Int) = ((less a b : Nat) : Int) := by
  have h1 : (BitVec.ofInt 64 (a : Int)).toNat = a := by
    rw [BitVec.ofInt_natCast, BitVec.toNat_ofNat]; exact Nat.mod_eq_of_lt (by omega)
  have h2 : (BitVec.ofInt 64 (b : Int)).toNat = b := by
    rw [BitVec.ofInt_natCast, BitVec.toNat_ofNat]; exact Nat.mod_eq_of_lt (by omega)
  show IntKind.u64.wrap ((BitVec.ofInt 64 (a : Int) &&& ~~~ BitVec.ofInt 64 (b : Int)).toNat : Int) = _
  have e : a &&& (2 ^ 64 - 1 - b) = less a b := by
    apply Nat.eq_of_testBit_eq
    intro i
    rw [less_bit, Nat.testBit_and, show 2 ^ 64 - 1 - b = 2 ^ 64 - (b + 1) by omega, Nat.testBit_two_pow_sub_succ (by omega)]
    by_cases hi : i < 64
    · simp [hi]
    · rw [high_bit ha (by omega)]; simp
  rw [BitVec.toNat_and, BitVec.toNat_not, h1, h2, e, IntKind.wrap_u64]
  have := less_lt a b ha
  omega
/-- Are all of the first in the second? -/
def inB (a b : Nat) : Bool := decide (less a b = 0)
theorem within_f (a b : Nat) (ha : a < 18446744073709551616) (hb : b < 18446744073709551616) : crowd_Within.f (a : Int) (b : Int) = some (inB a b) := by
  unfold crowd_Within.f inB
  rw [bits_andNot_nat a b ha hb]
  congr 1
  by_cases h : less a b = 0
  · rw [h]; rfl
  · simp [h]
theorem inB_of {a b : Nat} (h : ∀ i, a.testBit i = true → b.testBit i = true) : inB a b = true := by
  unfold inB
  refine decide_eq_true ?_
  apply Nat.eq_of_testBit_eq
  intro i
  rw [less_bit, Nat.zero_testBit]
  cases ha : a.testBit i
  · rfl
  · rw [h i ha]; rfl
theorem of_inB {a b : Nat} (h : inB a b = true) (i : Nat) (ha : a.testBit i = true) : b.testBit i = true := by
  have h := of_decide_eq_true h
  have := less_bit a b i
  rw [h, Nat.zero_testBit, ha] at this
  cases hb : b.testBit i
  · rw [hb] at this; cases this
  · rfl
theorem all_f (n : Int) : ∃ c : Nat, c ≤ 64 ∧ crowd_All.f n = some ((2 ^ c - 1 : Nat) : Int) ∧ (c : Int) = (if n < 0 then 0 else if n > 64 then 64 else n) := by
  have key : ∀ c : Nat, c ≤ 64 → mn (mx n 0) 64 = (c : Int) → crowd_All.f n = some ((2 ^ c - 1 : Nat) : Int) := by
    intro c hc e
    unfold crowd_All.f
    rw [e, bit_f c hc]
    simp only [Option.bind_some, Option.some.injEq]
    have hp : 0 < 2 ^ c := Nat.pow_pos (by decide)
    rw [IntKind.wrap_u64]
    rcases Nat.lt_or_ge c 64 with h | h
    · rw [bit_lt c h]
      have := two_le_nat (a := c) (b := 63) (by omega)
      omega
    · obtain rfl : c = 64 := by omega
      decide
  rcases Int.lt_or_le n 0 with h | h
  · exact ⟨0, by omega, key 0 (by omega) (by unfold mn mx; omega), by rw [if_pos h]; rfl⟩
  · rcases Int.lt_or_le 64 n with h2 | h2
    · exact ⟨64, by omega, key 64 (by omega) (by unfold mn mx; omega), by rw [if_neg (by omega), if_pos h2]; rfl⟩
    · exact ⟨n.toNat, by omega, key _ (by omega) (by unfold mn mx; omega), by rw [if_neg (by omega), if_neg (by omega)]; omega⟩
theorem ints_l0 (l : List Int) (h64 : l.length ≤ 64) : ∀ (d i : Nat), i + d = l.length → Ev (fun k => offertoryref01_Ints.l0 k l l (i : Int)) true := by
  intro d
  induction d with
  | zero =>
    intro i hi
    refine Ev.succ ?_
    simp only [offertoryref01_Ints.l0]
    refine Ev.neg (by omega) (Ev.some_ rfl)
  | succ d ih =>
    intro i hi
    refine Ev.succ ?_
    simp only [offertoryref01_Ints.l0]
    refine Ev.pos (by omega) (Ev.pos (by omega) (Ev.pos (by omega) (Ev.pos (by first | rfl | trivial) ?_)))
    rw [w64 (by omega)]
    exact ih (i + 1) (by omega)
theorem ints_f (l : List Int) (h64 : l.length ≤ 64) : Ev (fun k => offertoryref01_Ints.f k l l) true := by
  unfold offertoryref01_Ints.f
  exact Ev.pos rfl (ints_l0 l h64 l.length 0 (by omega))
theorem awake_f : Ev (fun k => offertorylaw18_awake.f k) true := Ev.of (fun k => offertorylaw18_awake.mono k) (k := 100) (by decide +kernel)
/-- What is listed. -/
theorem mem_lst : ∀ (n i x : Nat) (m : Int), m ∈ lst n i x ↔ ∃ j, j < n ∧ x.testBit j = true ∧ m = (i : Int) + j + 1
  | 0, i, x, m => by simp [lst]
  | n + 1, i, x, m => by
    have ih := mem_lst n (i + 1) (x / 2) m
    have key : (∃ j, j < n + 1 ∧ x.testBit j = true ∧ m = (i : Int) + j + 1) ↔ (x % 2 = 1 ∧ m = (i : Int) + 1) ∨ ∃ j, j < n ∧ (x / 2).testBit j = true ∧ m = ((i + 1 : Nat) : Int) + j + 1 := by
      constructor
      · rintro ⟨j, hj, hb, rfl⟩
        cases j with
        | zero => left; rw [Nat.testBit_zero] at hb; exact ⟨of_decide_eq_true hb, by omega⟩
        | succ j => right; rw [Nat.testBit_succ] at hb; exact ⟨j, by omega, hb, by omega⟩
      · rintro (⟨h, rfl⟩ | ⟨j, hj, hb, rfl⟩)
        · exact ⟨0, by omega, by rw [Nat.testBit_zero]; exact decide_eq_true h, by omega⟩
        · exact ⟨j + 1, by omega, by rw [Nat.testBit_succ]; exact hb, by omega⟩
    have hl : lst (n + 1) i x = if x % 2 = 1 then ((i : Int) + 1) :: lst n (i + 1) (x / 2) else lst n (i + 1) (x / 2) := rfl
    rw [key, ← ih, hl]
    split
    · rename_i h; simp [h]
    · rename_i h; simp [h]
theorem mem_L (x : Nat) (m : Int) : m ∈ L x ↔ ∃ j, j < 64 ∧ x.testBit j = true ∧ m = (j : Int) + 1 := by
  unfold L
  rw [mem_lst]
  constructor
  · rintro ⟨j, h1, h2, rfl⟩; exact ⟨j, h1, h2, by omega⟩
  · rintro ⟨j, h1, h2, rfl⟩; exact ⟨j, h1, h2, by omega⟩
theorem rd_mem (l : List Int) (i : Nat) (h : i < l.length) : rd l (i : Int) ∈ l := by rw [rd_get l i h]; exact List.getElem_mem h
end Go.Proofs.YtegifiagobienaaDoor.Plain
