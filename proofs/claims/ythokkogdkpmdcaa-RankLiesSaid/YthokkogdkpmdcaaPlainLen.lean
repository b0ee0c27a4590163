/- The bits of a number, by the library's table; shifts as powers of two. -/
import Derived.Test.YthokkogdkpmdcaaPAllx1
import Derived.Test.YthokkogdkpmdcaaPAllx2
import Derived.Test.YthokkogdkpmdcaaPAllx3
import Derived.Test.YthokkogdkpmdcaaPAllx4
import Derived.Test.YthokkogdkpmdcaaPAllx5
import Derived.Test.YthokkogdkpmdcaaPAllx6
import Derived.Test.YthokkogdkpmdcaaPAllx7
import Derived.Test.YthokkogdkpmdcaaPAllx8
import Derived.Test.YthokkogdkpmdcaaPAllx10

import Derived.Test.YthokkogdkpmdcaaBase
namespace Go.Proofs.Ythokkogdkpmdcaa.Plain
open Go.RowKit Go.Proofs.Ythokkogdkpmdcaa.PAll Go.Proofs.Ythokkogdkpmdcaa.Opn Go.Proofs.Ythokkogdkpmdcaa.Base Go.Proofs.YthokkogdkpmdcaaW.PrintWords Go.Proofs.YthokkogdkpmdcaaW.PrintLast Go.Proofs.YthokkogdkpmdcaaW.PrintMore
set_option linter.unusedVariables false
set_option linter.unusedSimpArgs false

def IsLen (x : Int) (n : Int) : Prop := 0 ≤ n ∧ x < 2 ^ n.toNat ∧ (n = 0 ∨ 2 ^ (n - 1).toNat ≤ x)
theorem two_le {a b : Nat} (h : a ≤ b) : (2 : Int) ^ a ≤ 2 ^ b := by
  have : (2 : Nat) ^ a ≤ 2 ^ b := Nat.pow_le_pow_right (by decide) h
  exact_mod_cast this
theorem isLen_up {x n : Int} {s : Nat} (h : IsLen (x / 2 ^ s) n) (hx : 0 ≤ x) (h1 : 1 ≤ n) : IsLen x (n + s) := by
  obtain ⟨h0, ha, hb⟩ := h
  have hp : (0 : Int) < 2 ^ s := by
    have : (0 : Nat) < 2 ^ s := Nat.pow_pos (by decide)
    exact_mod_cast this
  refine ⟨by omega, ?_, Or.inr ?_⟩
  · rw [show (n + (s : Int)).toNat = n.toNat + s by omega, Int.pow_add]
    exact Int.lt_mul_of_ediv_lt hp ha
  · rcases hb with hb | hb
    · omega
    · rw [show (n + (s : Int) - 1).toNat = (n - 1).toNat + s by omega, Int.pow_add]
      exact (Int.le_ediv_iff_mul_le hp).1 hb
def tabB : ByteArray := (⟨#[0, 1, 2, 2, 3, 3, 3, 3, 4, 4, 4, 4, 4, 4, 4, 4, 5, 5, 5, 5, 5, 5, 5, 5, 5, 5, 5, 5, 5, 5, 5, 5, 6, 6, 6, 6, 6, 6, 6, 6, 6, 6, 6, 6, 6, 6, 6, 6, 6, 6, 6, 6, 6, 6, 6, 6, 6, 6, 6, 6, 6, 6, 6, 6, 7, 7, 7, 7, 7, 7, 7, 7, 7, 7, 7, 7, 7, 7, 7, 7, 7, 7, 7, 7, 7, 7, 7, 7, 7, 7, 7, 7, 7, 7, 7, 7, 7, 7, 7, 7, 7, 7, 7, 7, 7, 7, 7, 7, 7, 7, 7, 7, 7, 7, 7, 7, 7, 7, 7, 7, 7, 7, 7, 7, 7, 7, 7, 7, 8, 8, 8, 8, 8, 8, 8, 8, 8, 8, 8, 8, 8, 8, 8, 8, 8, 8, 8, 8, 8, 8, 8, 8, 8, 8, 8, 8, 8, 8, 8, 8, 8, 8, 8, 8, 8, 8, 8, 8, 8, 8, 8, 8, 8, 8, 8, 8, 8, 8, 8, 8, 8, 8, 8, 8, 8, 8, 8, 8, 8, 8, 8, 8, 8, 8, 8, 8, 8, 8, 8, 8, 8, 8, 8, 8, 8, 8, 8, 8, 8, 8, 8, 8, 8, 8, 8, 8, 8, 8, 8, 8, 8, 8, 8, 8, 8, 8, 8, 8, 8, 8, 8, 8, 8, 8, 8, 8, 8, 8, 8, 8, 8, 8, 8, 8, 8, 8, 8, 8, 8, 8, 8, 8, 8, 8, 8, 8]⟩ : ByteArray)
theorem tab_ok : ∀ v : Fin 256, 0 ≤ bt tabB (v : Nat) ∧ bt tabB (v : Nat) ≤ 8 ∧ ((v : Nat) : Int) < 2 ^ (bt tabB (v : Nat)).toNat ∧ (bt tabB (v : Nat) = 0 ∨ (2 : Int) ^ (bt tabB (v : Nat) - 1).toNat ≤ (v : Nat)) ∧ ((v : Nat) = 0 ∨ 1 ≤ bt tabB (v : Nat)) := by decide +kernel
theorem tab_len {v : Int} (h : 0 ≤ v ∧ v < 256) : IsLen v (bt tabB v) ∧ bt tabB v ≤ 8 ∧ (v = 0 ∨ 1 ≤ bt tabB v) := by
  obtain ⟨m, rfl⟩ : ∃ m : Nat, v = m := ⟨v.toNat, by omega⟩
  have := tab_ok ⟨m, by omega⟩
  obtain ⟨h0, h1, h2, h3, h4⟩ := this
  refine ⟨⟨h0, h2, h3⟩, h1, ?_⟩
  rcases h4 with h4 | h4
  · left; simpa using h4
  · right; exact h4
set_option maxRecDepth 100000 in
theorem j0_eq (k : Nat) (x s : Int) : bits_Len64.j0 (k + 1) x s = if x ≥ 65536 then (if (x / 65536) ≥ 256 then (if 0 ≤ (((x / 65536) / 256) % 256) then (if (((x / 65536) / 256) % 256) < 256 then (some (wrap64 ((wrap64 ((wrap64 (s + 16)) + 8)) + (wrap64 (bt tabB (((x / 65536) / 256) % 256)))))) else (none)) else (none)) else (if 0 ≤ ((x / 65536) % 256) then (if ((x / 65536) % 256) < 256 then (some (wrap64 ((wrap64 (s + 16)) + (wrap64 (bt tabB ((x / 65536) % 256)))))) else (none)) else (none))) else (if x ≥ 256 then (if 0 ≤ ((x / 256) % 256) then (if ((x / 256) % 256) < 256 then (some (wrap64 ((wrap64 (s + 8)) + (wrap64 (bt tabB ((x / 256) % 256)))))) else (none)) else (none)) else (if 0 ≤ (x % 256) then (if (x % 256) < 256 then (some (wrap64 (s + (wrap64 (bt tabB (x % 256)))))) else (none)) else (none))) := by rfl
theorem len_j0 (x s : Int) (h0 : 0 ≤ x) (h1 : x < 4294967296) (hs : 0 ≤ s ∧ s ≤ 64) : ∃ n, IsLen x n ∧ n ≤ 32 ∧ (x = 0 ∨ 1 ≤ n) ∧ Ev (fun k => bits_Len64.j0 k x s) (s + n) := by
  have fold : ∀ (e : Int) (h : 0 ≤ e ∧ e < 256) (r : Int), ((fun _ : Nat => if 0 ≤ e then if e < 256 then some r else none else none)) = (fun _ : Nat => some r) := by
    intro e h r
    rw [if_pos h.1, if_pos h.2]
  by_cases ha : x ≥ 65536
  · by_cases hb : x / 65536 ≥ 256
    · obtain ⟨ht, h8, h9⟩ := tab_len (v := x / 65536 / 256) (by omega)
      have hge : 1 ≤ bt tabB (x / 65536 / 256) := by rcases h9 with h9 | h9 <;> omega
      refine ⟨bt tabB (x / 65536 / 256) + 8 + 16, ?_, by omega, by omega, ?_⟩
      · have h2 := isLen_up (s := 8) ht (by omega) hge
        exact isLen_up (s := 16) h2 h0 (by omega)
      · refine Ev.succ ?_
        simp only [j0_eq]
        refine Ev.pos ha (Ev.pos hb ?_)
        rw [show x / 65536 / 256 % 256 = x / 65536 / 256 by omega]
        rw [fold _ (by omega)]
        refine Ev.some_ ?_
        have := ht.1
        rw [w64 (x := s + 16) (by omega), w64 (x := s + 16 + 8) (by omega), w64 (x := bt tabB (x / 65536 / 256)) (by omega), w64 (by omega)]
        omega
    · obtain ⟨ht, h8, h9⟩ := tab_len (v := x / 65536) (by omega)
      have hge : 1 ≤ bt tabB (x / 65536) := by rcases h9 with h9 | h9 <;> omega
      refine ⟨bt tabB (x / 65536) + 16, isLen_up (s := 16) ht h0 hge, by omega, by omega, ?_⟩
      refine Ev.succ ?_
      simp only [j0_eq]
      refine Ev.pos ha (Ev.neg hb ?_)
      rw [show x / 65536 % 256 = x / 65536 by omega]
      rw [fold _ (by omega)]
      refine Ev.some_ ?_
      have := ht.1
      rw [w64 (x := s + 16) (by omega), w64 (x := bt tabB (x / 65536)) (by omega), w64 (by omega)]
      omega
  · by_cases hb : x ≥ 256
    · obtain ⟨ht, h8, h9⟩ := tab_len (v := x / 256) (by omega)
      have hge : 1 ≤ bt tabB (x / 256) := by rcases h9 with h9 | h9 <;> omega
      refine ⟨bt tabB (x / 256) + 8, isLen_up (s := 8) ht h0 hge, by omega, by omega, ?_⟩
      refine Ev.succ ?_
      simp only [j0_eq]
      refine Ev.neg ha (Ev.pos hb ?_)
      rw [show x / 256 % 256 = x / 256 by omega]
      rw [fold _ (by omega)]
      refine Ev.some_ ?_
      have := ht.1
      rw [w64 (x := s + 8) (by omega), w64 (x := bt tabB (x / 256)) (by omega), w64 (by omega)]
      omega
    · obtain ⟨ht, h8, h9⟩ := tab_len (v := x) (by omega)
      refine ⟨bt tabB x, ht, by omega, by omega, ?_⟩
      refine Ev.succ ?_
      simp only [j0_eq]
      refine Ev.neg ha (Ev.neg hb ?_)
      rw [show x % 256 = x by omega]
      rw [fold _ (by omega)]
      refine Ev.some_ ?_
      have := ht.1
      rw [w64 (x := bt tabB x) (by omega), w64 (by omega)]
theorem len_f (x : Int) (h : 0 ≤ x ∧ x ≤ 18446744073709551615) : ∃ n, IsLen x n ∧ n ≤ 64 ∧ (x = 0 ∨ 1 ≤ n) ∧ Ev (fun k => bits_Len64.f k x) n := by
  unfold bits_Len64.f
  by_cases hx : x ≥ 4294967296
  · obtain ⟨n, hn, h1, h2, h3⟩ := len_j0 (x / 4294967296) 32 (by omega) (by omega) (by omega)
    refine ⟨n + (32 : Nat), isLen_up (s := 32) hn h.1 (by omega), by omega, by omega, Ev.pos hx ?_⟩
    rw [show n + ((32 : Nat) : Int) = 32 + n by omega]
    exact h3
  · obtain ⟨n, hn, h1, h2, h3⟩ := len_j0 x 0 (by omega) (by omega) (by omega)
    refine ⟨n, hn, by omega, h2, Ev.neg hx ?_⟩
    rw [Int.zero_add] at h3
    exact h3

theorem two_pos (n : Nat) : (0 : Int) < 2 ^ n := by
  have : (0 : Nat) < 2 ^ n := Nat.pow_pos (by decide)
  exact_mod_cast this
theorem shl_eq {x y : Int} (h0 : 0 ≤ y) (h1 : y ≤ 64) : shl .u64 x y = (x * 2 ^ y.toNat) % 18446744073709551616 := by
  unfold shl
  rw [IntKind.wrap_u64, show min y.toNat IntKind.u64.bits = y.toNat by simp [IntKind.bits]; omega]
theorem shr_eq {x y : Int} (h0 : 0 ≤ y) (h1 : y ≤ 64) : shr .u64 x y = x / 2 ^ y.toNat := by
  unfold shr
  rw [show min y.toNat IntKind.u64.bits = y.toNat by simp [IntKind.bits]; omega]
/-- 'or' of a multiple of a power of two and what is below it. -/
theorem or_pow {x y : Int} {n : Nat} (h0 : 0 ≤ x) (h1 : x * 2 ^ n < 18446744073709551616) (h2 : 0 ≤ y) (h3 : y < 2 ^ n) (h4 : y < 18446744073709551616) : Go.bits .or .u64 (x * 2 ^ n) y = x * 2 ^ n + y := by
  obtain ⟨a, rfl⟩ := Int.eq_ofNat_of_zero_le h0
  obtain ⟨b, rfl⟩ := Int.eq_ofNat_of_zero_le h2
  have e : (a : Int) * 2 ^ n = ((a * 2 ^ n : Nat) : Int) := by rw [Int.natCast_mul, Int.natCast_pow]; rfl
  have h3' : b < 2 ^ n := by
    have : ((b : Nat) : Int) < ((2 ^ n : Nat) : Int) := by rw [Int.natCast_pow]; exact h3
    exact_mod_cast this
  rw [e] at h1 ⊢
  rw [bits_or_u64_nat _ _ (Int.ofNat_lt.1 h1) (by omega), ← Nat.shiftLeft_eq, ← Nat.shiftLeft_add_eq_or_of_lt h3', Nat.shiftLeft_eq, Int.natCast_add]
theorem pow_split {n m : Nat} (h : n + m = 64) : (2 : Int) ^ n * 2 ^ m = 18446744073709551616 := by
  rw [← Int.pow_add, h]; rfl
end Go.Proofs.Ythokkogdkpmdcaa.Plain
