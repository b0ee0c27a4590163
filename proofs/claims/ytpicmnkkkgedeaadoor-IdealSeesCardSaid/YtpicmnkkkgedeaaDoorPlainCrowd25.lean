/- Sets as bits, in whole numbers: what a set lists, how many it has, and the printed functions of crowd. -/
import Derived.Test.YtpicmnkkkgedeaaDoorPAllx15

import Derived.Test.YtpicmnkkkgedeaaDoorBase
import Derived.Laws.Bits64b
import Derived.Lib.TrailingZeros
namespace Go.Proofs.YtpicmnkkkgedeaaDoor.Plain
open Go.RowKit Go.Proofs.YtpicmnkkkgedeaaDoor.PAll Go.Proofs.YtpicmnkkkgedeaaDoor.Opn Go.Proofs.YtpicmnkkkgedeaaDoor.Base Go.Proofs.YtpicmnkkkgedeaaDoorW.PrintWords Go.Proofs.YtpicmnkkkgedeaaDoorW.PrintLast Go.Proofs.YtpicmnkkkgedeaaDoorW.PrintMore
set_option linter.unusedVariables false
set_option linter.unusedSimpArgs false

theorem shl_eq {x y : Int} (h0 : 0 ≤ y) (h1 : y ≤ 64) : shl .u64 x y = (x * 2 ^ y.toNat) % 18446744073709551616 := by
  unfold shl
  rw [IntKind.wrap_u64, show min y.toNat IntKind.u64.bits = y.toNat by simp [IntKind.bits]; omega]
theorem shr_eq {x y : Int} (h0 : 0 ≤ y) (h1 : y ≤ 64) : shr .u64 x y = x / 2 ^ y.toNat := by
  unfold shr
  rw [show min y.toNat IntKind.u64.bits = y.toNat by simp [IntKind.bits]; omega]

/-- The numbers of the set bits of x (n of them looked at), each by one more, from i on. -/
def lst : Nat → Nat → Nat → List Int
  | 0, _, _ => []
  | n + 1, i, x => if x % 2 = 1 then ((i : Int) + 1) :: lst n (i + 1) (x / 2) else lst n (i + 1) (x / 2)
def cnt : Nat → Nat → Nat
  | 0, _ => 0
  | n + 1, x => x % 2 + cnt n (x / 2)
theorem lst_length : ∀ (n i x : Nat), (lst n i x).length = cnt n x
  | 0, _, _ => rfl
  | n + 1, i, x => by
    unfold lst cnt
    have := lst_length n (i + 1) (x / 2)
    split
    · rename_i h; rw [List.length_cons, this]; omega
    · rw [this]; omega
theorem cnt_le : ∀ (n x : Nat), cnt n x ≤ n
  | 0, _ => Nat.le_refl _
  | n + 1, x => by
    unfold cnt
    have := cnt_le n (x / 2)
    omega
theorem lst_zero : ∀ (n i : Nat), lst n i 0 = []
  | 0, _ => rfl
  | n + 1, i => by unfold lst; simp [lst_zero n (i + 1)]
theorem and_pred_odd (y : Nat) : (2 * y + 1) &&& (2 * y) = 2 * y := by
  apply Nat.eq_of_testBit_eq
  intro i
  rw [Nat.testBit_and]
  cases i with
  | zero => simp [Nat.testBit_zero]
  | succ i =>
    rw [Nat.testBit_succ, Nat.testBit_succ, show (2 * y + 1) / 2 = y by omega, show 2 * y / 2 = y by omega]
    simp
theorem and_pred_even (y : Nat) (h : 0 < y) : (2 * y) &&& (2 * y - 1) = 2 * (y &&& (y - 1)) := by
  apply Nat.eq_of_testBit_eq
  intro i
  rw [Nat.testBit_and]
  cases i with
  | zero => simp [Nat.testBit_zero]
  | succ i =>
    rw [Nat.testBit_succ, Nat.testBit_succ, Nat.testBit_succ, show (2 * y - 1) / 2 = y - 1 by omega, show 2 * y / 2 = y by omega, show 2 * (y &&& (y - 1)) / 2 = (y &&& (y - 1)) by omega, Nat.testBit_and]
theorem lst_step : ∀ (n i x : Nat), x ≠ 0 → x < 2 ^ n → lst n i x = ((i + Lib.ctzFrom n x : Nat) + 1 : Int) :: lst n i (x &&& (x - 1))
  | 0, _, x, h0, h => by simp at h; omega
  | n + 1, i, x, h0, h => by
    by_cases ho : x % 2 = 1
    · obtain ⟨y, rfl⟩ : ∃ y, x = 2 * y + 1 := ⟨x / 2, by omega⟩
      rw [show 2 * y + 1 - 1 = 2 * y by omega, and_pred_odd]
      have e : Lib.ctzFrom (n + 1) (2 * y + 1) = 0 := by unfold Lib.ctzFrom; rw [if_pos ho]
      rw [e, Nat.add_zero]
      unfold lst
      rw [if_pos ho, if_neg (by omega), show (2 * y + 1) / 2 = y by omega, show 2 * y / 2 = y by omega]
      rfl
    · obtain ⟨y, rfl⟩ : ∃ y, x = 2 * y := ⟨x / 2, by omega⟩
      rw [and_pred_even y (by omega)]
      have e : Lib.ctzFrom (n + 1) (2 * y) = 1 + Lib.ctzFrom n y := by
        unfold Lib.ctzFrom; rw [if_neg ho, show 2 * y / 2 = y by omega]; cases n <;> rfl
      rw [e]
      have h' : y < 2 ^ n := by rw [Nat.pow_succ] at h; omega
      have ih := lst_step n (i + 1) y (by omega) h'
      unfold lst
      rw [if_neg ho, if_neg (by omega), show 2 * y / 2 = y by omega, show 2 * (y &&& (y - 1)) / 2 = y &&& (y - 1) by omega, ih, show i + 1 + Lib.ctzFrom n y = i + (1 + Lib.ctzFrom n y) by omega]
/-- What a set lists. -/
def L (x : Nat) : List Int := lst 64 0 x
theorem L_len (x : Nat) : (L x).length ≤ 64 := by unfold L; rw [lst_length]; exact cnt_le _ _
theorem L_step (x : Nat) (h0 : x ≠ 0) (h : x < 18446744073709551616) : L x = ((Lib.ctz 64 x : Nat) + 1 : Int) :: L (x &&& (x - 1)) := by
  unfold L Lib.ctz
  rw [if_neg h0, lst_step 64 0 x h0 h, Nat.zero_add]
theorem ctz_lt (x : Nat) (h0 : x ≠ 0) (h : x < 18446744073709551616) : Lib.ctz 64 x < 64 := (Lib.lowest_bit 64 x h0 h).2
/-- What the program's List answers. -/
theorem list_l0 : ∀ (d x : Nat) (acc : List Int), x < 18446744073709551616 → (L x).length = d → acc.length + d ≤ 64 → Ev (fun k => crowd_List.l0 k (x : Int) acc) (acc ++ L x) := by
  intro d
  induction d with
  | zero =>
    intro x acc hx hd hl
    have h0 : x = 0 := by
      apply Decidable.byContradiction
      intro h0
      rw [L_step x h0 hx] at hd
      cases hd
    subst h0
    refine Ev.succ ?_
    simp only [crowd_List.l0]
    refine Ev.pos rfl ?_
    refine Ev.some_ ?_
    rw [show L 0 = [] from lst_zero _ _, List.append_nil]
  | succ d ih =>
    intro x acc hx hd hl
    have h0 : x ≠ 0 := by
      rintro rfl
      rw [show L 0 = [] from lst_zero _ _] at hd
      cases hd
    have hs := L_step x h0 hx
    rw [hs] at hd
    have hc := ctz_lt x h0 hx
    refine Ev.succ ?_
    simp only [crowd_List.l0]
    refine Ev.neg (by omega) ?_
    refine Ev.bind0 (a := (Lib.ctz 64 x : Int)) ?_ ?_
    · unfold bits_TrailingZeros64.f
      rw [if_pos (by omega), Int.toNat_natCast]
    refine Ev.pos (by omega) ?_
    have e1 : IntKind.u64.wrap ((x : Int) - 1) = ((x - 1 : Nat) : Int) := by rw [IntKind.wrap_u64]; omega
    have e2 : Go.bits .and .u64 (x : Int) ((x - 1 : Nat) : Int) = ((x &&& (x - 1) : Nat) : Int) := bits_and_u64_nat _ _ hx (by omega)
    rw [e1, e2, w64 (by omega)]
    have hle : x &&& (x - 1) ≤ x := Nat.and_le_left
    have := ih (x &&& (x - 1)) (acc ++ [(Lib.ctz 64 x : Int) + 1]) (by omega) (by simpa using hd) (by simp; omega)
    rw [hs, show acc ++ ((Lib.ctz 64 x : Int) + 1) :: L (x &&& (x - 1)) = acc ++ [(Lib.ctz 64 x : Int) + 1] ++ L (x &&& (x - 1)) by simp]
    exact this
theorem list_f (x : Nat) (hx : x < 18446744073709551616) : Ev (fun k => crowd_List.f k (x : Int)) (L x) := by
  have := list_l0 _ x [] hx rfl (by have := L_len x; simpa using this)
  rw [List.nil_append] at this
  exact this
theorem pow_nat (m : Nat) : (2 : Int) ^ m = ((2 ^ m : Nat) : Int) := by rw [Int.natCast_pow]; rfl
theorem two_le_nat {a b : Nat} (h : a ≤ b) : (2 : Nat) ^ a ≤ 2 ^ b := Nat.pow_le_pow_right (by decide) h
theorem bit_f (m : Nat) (h : m ≤ 64) : crowd_bit.f ((m : Int) + 1) = some (((2 ^ m % 18446744073709551616 : Nat)) : Int) := by
  unfold crowd_bit.f
  rw [w64 (by omega), if_pos (by omega), shl_eq (by omega) (by omega), Int.one_mul, show ((m : Int) + 1 - 1).toNat = m by omega, pow_nat]
  rfl
theorem bit_lt (m : Nat) (h : m < 64) : 2 ^ m % 18446744073709551616 = 2 ^ m := by
  have := two_le_nat (a := m) (b := 63) (by omega)
  exact Nat.mod_eq_of_lt (by omega)
theorem bit_f' (m : Nat) (h : m < 64) : crowd_bit.f ((m : Int) + 1) = some (((2 ^ m : Nat)) : Int) := by rw [bit_f m (by omega), bit_lt m h]
theorem and_bit (x m : Nat) : (x &&& 2 ^ m = 0) ↔ x.testBit m = false := by
  constructor
  · intro h
    have := congrArg (fun y => Nat.testBit y m) h
    simpa [Nat.testBit_and, Nat.testBit_two_pow] using this
  · intro h
    apply Nat.eq_of_testBit_eq
    intro i
    rw [Nat.testBit_and, Nat.testBit_two_pow, Nat.zero_testBit]
    by_cases hi : m = i
    · subst hi; simp [h]
    · simp [hi]
/-- Is a number in a set? -/
def hasB (x : Nat) (n : Int) : Bool := decide (1 ≤ n ∧ n ≤ 64) && x.testBit (n - 1).toNat
theorem has_f (x : Nat) (n : Int) (hx : x < 18446744073709551616) : crowd_set_has.f (x : Int) n = some (hasB x n) := by
  unfold crowd_set_has.f hasB
  by_cases h1 : n ≥ 1
  · rw [if_pos h1]
    by_cases h2 : n ≤ 64
    · rw [if_pos h2]
      obtain ⟨m, rfl⟩ : ∃ m : Nat, n = (m : Int) + 1 := ⟨(n - 1).toNat, by omega⟩
      have hm : m < 64 := by omega
      have hp := two_le_nat (a := m) (b := 63) (by omega)
      rw [bit_f' m hm]
      simp only [Option.bind_some, Option.some.injEq]
      rw [bits_and_u64_nat x _ hx (by omega), show ((m : Int) + 1 - 1).toNat = m by omega]
      have := and_bit x m
      rw [show decide ((1 : Int) ≤ (m : Int) + 1 ∧ (m : Int) + 1 ≤ 64) = true by simp; omega, Bool.true_and]
      cases hb : x.testBit m
      · rw [this.2 hb]; rfl
      · have hne : x &&& 2 ^ m ≠ 0 := fun h => by rw [this.1 h] at hb; cases hb
        simp only [bne_iff_ne, ne_eq]
        omega
    · rw [if_neg h2]; simp [h2]
  · rw [if_neg h1]; simp; omega
theorem hass_f (x : Nat) (n : Int) (hx : x < 18446744073709551616) : crowd_Has.f (x : Int) n = some (hasB x n) := by
  unfold crowd_Has.f; rw [has_f x n hx]; rfl
def less (a b : Nat) : Nat := a ^^^ (a &&& b)
theorem less_bit (a b i : Nat) : (less a b).testBit i = (a.testBit i && !b.testBit i) := by
  unfold less
  rw [Nat.testBit_xor, Nat.testBit_and]
  cases a.testBit i <;> cases b.testBit i <;> rfl
theorem lt_of_bits (x : Nat) (h : ∀ i, 64 ≤ i → x.testBit i = false) : x < 18446744073709551616 := Nat.lt_pow_two_of_testBit x (n := 64) (fun i hi => h i hi)
theorem high_bit {x i : Nat} (hx : x < 18446744073709551616) (hi : 64 ≤ i) : x.testBit i = false := by
  refine Nat.testBit_lt_two_pow ?_
  have := two_le_nat hi
  have : (2 : Nat) ^ 64 = 18446744073709551616 := rfl
  omega
theorem less_lt (a b : Nat) (ha : a < 18446744073709551616) : less a b < 18446744073709551616 :=
  lt_of_bits _ fun i hi => by rw [less_bit, high_bit ha hi]; rfl
theorem and_lt (a b : Nat) (ha : a < 18446744073709551616) : a &&& b < 18446744073709551616 := Nat.lt_of_le_of_lt Nat.and_le_left ha
theorem bits_andNot_nat (a b : Nat) (ha : a < 18446744073709551616) (hb : b < 18446744073709551616) : Go.bits .andNot .u64 (a : Int) (b : Int) = ((less a b : Nat) : Int) := by
  have h1 : (BitVec.ofInt 64 (a : Int)).toNat = a := by
    rw [BitVec.ofInt_natCast, BitVec.toNat_ofNat]; exact Nat.mod_eq_of_lt (by omega)
  have h2 : (BitVec.ofInt 64 (b : Int)).toNat = b := by
    rw [BitVec.ofInt_natCast, BitVec.toNat_ofNat]; exact Nat.mod_eq_of_lt (by omega)
  show IntKind.u64.wrap ((BitVec.ofInt 64 (a : Int) &&& ~~~ BitVec.ofInt 64 (b : Int)).toNat : Int) = _
  have e : a &&& (2 ^ 64 - 1 - b) = less a b := by
    apply Nat.eq_of_testBit_eq
    intro i
    rw [less_bit, Nat.testBit_and, show 2 ^ 64 - 1 - b = 2 ^ 64 - (b + 1) by omega, Nat.testBit_two_pow_sub_succ (by omega)]
    by_cases hi : i < 64
    · simp [hi]
    · rw [high_bit ha (by omega)]; simp
  rw [BitVec.toNat_and, BitVec.toNat_not, h1, h2, e, IntKind.wrap_u64]
  have := less_lt a b ha
  omega
/-- Are all of the first in the second? -/
def inB (a b : Nat) : Bool := decide (less a b = 0)
theorem within_f (a b : Nat) (ha : a < 18446744073709551616) (hb : b < 18446744073709551616) : crowd_Within.f (a : Int) (b : Int) = some (inB a b) := by
  unfold crowd_Within.f inB
  rw [bits_andNot_nat a b ha hb]
  congr 1
  by_cases h : less a b = 0
  · rw [h]; rfl
  · simp [h]
theorem inB_of {a b : Nat} (h : ∀ i, a.testBit i = true → b.testBit i = true) : inB a b = true := by
  unfold inB
  refine decide_eq_true ?_
  apply Nat.eq_of_testBit_eq
  intro i
  rw [less_bit, Nat.zero_testBit]
  cases ha : a.testBit i
  · rfl
  · rw [h i ha]; rfl
theorem of_inB {a b : Nat} (h : inB a b = true) (i : Nat) (ha : a.testBit i = true) : b.testBit i = true := by
  have h := of_decide_eq_true h
  have := less_bit a b i
  rw [h, Nat.zero_testBit, ha] at this
  cases hb : b.testBit i
  · rw [hb] at this; cases this
  · rfl
theorem all_f (n : Int) : ∃ c : Nat, c ≤ 64 ∧ crowd_All.f n = some ((2 ^ c - 1 : Nat) : Int) ∧ (c : Int) = (if n < 0 then 0 else if n > 64 then 64 else n) := by
  have key : ∀ c : Nat, c ≤ 64 → mn (mx n 0) 64 = (c : Int) → crowd_All.f n = some ((2 ^ c - 1 : Nat) : Int) := by
    intro c hc e
    unfold crowd_All.f
    rw [e, bit_f c hc]
    simp only [Option.bind_some, Option.some.injEq]
    have hp : 0 < 2 ^ c := Nat.pow_pos (by decide)
    rw [IntKind.wrap_u64]
    rcases Nat.lt_or_ge c 64 with h | h
    · rw [bit_lt c h]
      have := two_le_nat (a := c) (b := 63) (by omega)
      omega
    · obtain rfl : c = 64 := by omega
      decide
  rcases Int.lt_or_le n 0 with h | h
  · exact ⟨0, by omega, key 0 (by omega) (by unfold mn mx; omega), by rw [if_pos h]; rfl⟩
  · rcases Int.lt_or_le 64 n with h2 | h2
    · exact ⟨64, by omega, key 64 (by omega) (by unfold mn mx; omega), by rw [if_neg (by omega), if_pos h2]; rfl⟩
    · exact ⟨n.toNat, by omega, key _ (by omega) (by unfold mn mx; omega), by rw [if_neg (by omega), if_neg (by omega)]; omega⟩
theorem mem_lst : ∀ (n i x : Nat) (m : Int), m ∈ lst n i x ↔ ∃ j, j < n ∧ x.testBit j = true ∧ m = (i : Int) + j + 1
  | 0, i, x, m => by simp [lst]
  | n + 1, i, x, m => by
    have ih := mem_lst n (i + 1) (x / 2) m
    have key : (∃ j, j < n + 1 ∧ x.testBit j = true ∧ m = (i : Int) + j + 1) ↔ (x % 2 = 1 ∧ m = (i : Int) + 1) ∨ ∃ j, j < n ∧ (x / 2).testBit j = true ∧ m = ((i + 1 : Nat) : Int) + j + 1 := by
      constructor
      · rintro ⟨j, hj, hb, rfl⟩
        cases j with
        | zero => left; rw [Nat.testBit_zero] at hb; exact ⟨of_decide_eq_true hb, by omega⟩
        | succ j => right; rw [Nat.testBit_succ] at hb; exact ⟨j, by omega, hb, by omega⟩
      · rintro (⟨h, rfl⟩ | ⟨j, hj, hb, rfl⟩)
        · exact ⟨0, by omega, by rw [Nat.testBit_zero]; exact decide_eq_true h, by omega⟩
        · exact ⟨j + 1, by omega, by rw [Nat.testBit_succ]; exact hb, by omega⟩
    have hl : lst (n + 1) i x = if x % 2 = 1 then ((i : Int) + 1) :: lst n (i + 1) (x / 2) else lst n (i + 1) (x / 2) := rfl
    rw [key, ← ih, hl]
    split
    · rename_i h; simp [h]
    · rename_i h; simp [h]
theorem mem_L (x : Nat) (m : Int) : m ∈ L x ↔ ∃ j, j < 64 ∧ x.testBit j = true ∧ m = (j : Int) + 1 := by
  unfold L
  rw [mem_lst]
  constructor
  · rintro ⟨j, h1, h2, rfl⟩; exact ⟨j, h1, h2, by omega⟩
  · rintro ⟨j, h1, h2, rfl⟩; exact ⟨j, h1, h2, by omega⟩
theorem rd_mem (l : List Int) (i : Nat) (h : i < l.length) : rd l (i : Int) ∈ l := by rw [rd_get l i h]; exact List.getElem_mem h

end Go.Proofs.YtpicmnkkkgedeaaDoor.Plain
