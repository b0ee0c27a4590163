/- The bits of a number: by the library's table, and by doubling. -/
import Derived.Test.YthbiijhjcoakfaaPlainClamp
namespace Go.Proofs.Ythbiijhjcoakfaa.Plain
open Go.RowKit Go.Proofs.Ythbiijhjcoakfaa.PAll Go.Proofs.Ythbiijhjcoakfaa.Opn Go.Proofs.Ythbiijhjcoakfaa.Base Go.Proofs.YthbiijhjcoakfaaW.PrintWords Go.Proofs.YthbiijhjcoakfaaW.PrintLast Go.Proofs.YthbiijhjcoakfaaW.PrintMore
set_option linter.unusedVariables false
set_option linter.unusedSimpArgs false

theorem two_le {a b : Nat} (h : a ≤ b) : (2 : Int) ^ a ≤ 2 ^ b := by
  have : (2 : Nat) ^ a ≤ 2 ^ b := Nat.pow_le_pow_right (by decide) h
  exact_mod_cast this
theorem isLen_up {x n : Int} {s : Nat} (h : IsLen (x / 2 ^ s) n) (hx : 0 ≤ x) (h1 : 1 ≤ n) : IsLen x (n + s) := by
  obtain ⟨h0, ha, hb⟩ := h
  have hp : (0 : Int) < 2 ^ s := by
    have : (0 : Nat) < 2 ^ s := Nat.pow_pos (by decide)
    exact_mod_cast this
  refine ⟨by omega, ?_, Or.inr ?_⟩
  · rw [show (n + (s : Int)).toNat = n.toNat + s by omega, Int.pow_add]
    exact Int.lt_mul_of_ediv_lt hp ha
  · rcases hb with hb | hb
    · omega
    · rw [show (n + (s : Int) - 1).toNat = (n - 1).toNat + s by omega, Int.pow_add]
      exact (Int.le_ediv_iff_mul_le hp).1 hb
def tabB : ByteArray := (⟨#[0, 1, 2, 2, 3, 3, 3, 3, 4, 4, 4, 4, 4, 4, 4, 4, 5, 5, 5, 5, 5, 5, 5, 5, 5, 5, 5, 5, 5, 5, 5, 5, 6, 6, 6, 6, 6, 6, 6, 6, 6, 6, 6, 6, 6, 6, 6, 6, 6, 6, 6, 6, 6, 6, 6, 6, 6, 6, 6, 6, 6, 6, 6, 6, 7, 7, 7, 7, 7, 7, 7, 7, 7, 7, 7, 7, 7, 7, 7, 7, 7, 7, 7, 7, 7, 7, 7, 7, 7, 7, 7, 7, 7, 7, 7, 7, 7, 7, 7, 7, 7, 7, 7, 7, 7, 7, 7, 7, 7, 7, 7, 7, 7, 7, 7, 7, 7, 7, 7, 7, 7, 7, 7, 7, 7, 7, 7, 7, 8, 8, 8, 8, 8, 8, 8, 8, 8, 8, 8, 8, 8, 8, 8, 8, 8, 8, 8, 8, 8, 8, 8, 8, 8, 8, 8, 8, 8, 8, 8, 8, 8, 8, 8, 8, 8, 8, 8, 8, 8, 8, 8, 8, 8, 8, 8, 8, 8, 8, 8, 8, 8, 8, 8, 8, 8, 8, 8, 8, 8, 8, 8, 8, 8, 8, 8, 8, 8, 8, 8, 8, 8, 8, 8, 8, 8, 8, 8, 8, 8, 8, 8, 8, 8, 8, 8, 8, 8, 8, 8, 8, 8, 8, 8, 8, 8, 8, 8, 8, 8, 8, 8, 8, 8, 8, 8, 8, 8, 8, 8, 8, 8, 8, 8, 8, 8, 8, 8, 8, 8, 8, 8, 8, 8, 8, 8, 8]⟩ : ByteArray)
theorem tab_ok : ∀ v : Fin 256, 0 ≤ bt tabB (v : Nat) ∧ bt tabB (v : Nat) ≤ 8 ∧ ((v : Nat) : Int) < 2 ^ (bt tabB (v : Nat)).toNat ∧ (bt tabB (v : Nat) = 0 ∨ (2 : Int) ^ (bt tabB (v : Nat) - 1).toNat ≤ (v : Nat)) ∧ ((v : Nat) = 0 ∨ 1 ≤ bt tabB (v : Nat)) := by decide +kernel
theorem tab_len {v : Int} (h : 0 ≤ v ∧ v < 256) : IsLen v (bt tabB v) ∧ bt tabB v ≤ 8 ∧ (v = 0 ∨ 1 ≤ bt tabB v) := by
  obtain ⟨m, rfl⟩ : ∃ m : Nat, v = m := ⟨v.toNat, by omega⟩
  have := tab_ok ⟨m, by omega⟩
  obtain ⟨h0, h1, h2, h3, h4⟩ := this
  refine ⟨⟨h0, h2, h3⟩, h1, ?_⟩
  rcases h4 with h4 | h4
  · left; simpa using h4
  · right; exact h4
set_option maxRecDepth 100000 in
theorem j0_eq (k : Nat) (x s : Int) : bits_Len64.j0 (k + 1) x s = if x ≥ 65536 then (if (x / 65536) ≥ 256 then (if 0 ≤ (((x / 65536) / 256) % 256) then (if (((x / 65536) / 256) % 256) < 256 then (some (wrap64 ((wrap64 ((wrap64 (s + 16)) + 8)) + (wrap64 (bt tabB (((x / 65536) / 256) % 256)))))) else (none)) else (none)) else (if 0 ≤ ((x / 65536) % 256) then (if ((x / 65536) % 256) < 256 then (some (wrap64 ((wrap64 (s + 16)) + (wrap64 (bt tabB ((x / 65536) % 256)))))) else (none)) else (none))) else (if x ≥ 256 then (if 0 ≤ ((x / 256) % 256) then (if ((x / 256) % 256) < 256 then (some (wrap64 ((wrap64 (s + 8)) + (wrap64 (bt tabB ((x / 256) % 256)))))) else (none)) else (none)) else (if 0 ≤ (x % 256) then (if (x % 256) < 256 then (some (wrap64 (s + (wrap64 (bt tabB (x % 256)))))) else (none)) else (none))) := by rfl
theorem len_j0 (x s : Int) (h0 : 0 ≤ x) (h1 : x < 4294967296) (hs : 0 ≤ s ∧ s ≤ 64) : ∃ n, IsLen x n ∧ n ≤ 32 ∧ (x = 0 ∨ 1 ≤ n) ∧ Ev (fun k => bits_Len64.j0 k x s) (s + n) := by
  have fold : ∀ (e : Int) (h : 0 ≤ e ∧ e < 256) (r : Int), ((fun _ : Nat => if 0 ≤ e then if e < 256 then some r else none else none)) = (fun _ : Nat => some r) := by
    intro e h r
    rw [if_pos h.1, if_pos h.2]
  by_cases ha : x ≥ 65536
  · by_cases hb : x / 65536 ≥ 256
    · obtain ⟨ht, h8, h9⟩ := tab_len (v := x / 65536 / 256) (by omega)
      have hge : 1 ≤ bt tabB (x / 65536 / 256) := by rcases h9 with h9 | h9 <;> omega
      refine ⟨bt tabB (x / 65536 / 256) + 8 + 16, ?_, by omega, by omega, ?_⟩
      · have h2 := isLen_up (s := 8) ht (by omega) hge
        exact isLen_up (s := 16) h2 h0 (by omega)
      · refine Ev.succ ?_
        simp only [j0_eq]
        refine Ev.pos ha (Ev.pos hb ?_)
        rw [show x / 65536 / 256 % 256 = x / 65536 / 256 by omega]
        rw [fold _ (by omega)]
        refine Ev.some_ ?_
        have := ht.1
        rw [w64 (x := s + 16) (by omega), w64 (x := s + 16 + 8) (by omega), w64 (x := bt tabB (x / 65536 / 256)) (by omega), w64 (by omega)]
        omega
    · obtain ⟨ht, h8, h9⟩ := tab_len (v := x / 65536) (by omega)
      have hge : 1 ≤ bt tabB (x / 65536) := by rcases h9 with h9 | h9 <;> omega
      refine ⟨bt tabB (x / 65536) + 16, isLen_up (s := 16) ht h0 hge, by omega, by omega, ?_⟩
      refine Ev.succ ?_
      simp only [j0_eq]
      refine Ev.pos ha (Ev.neg hb ?_)
      rw [show x / 65536 % 256 = x / 65536 by omega]
      rw [fold _ (by omega)]
      refine Ev.some_ ?_
      have := ht.1
      rw [w64 (x := s + 16) (by omega), w64 (x := bt tabB (x / 65536)) (by omega), w64 (by omega)]
      omega
  · by_cases hb : x ≥ 256
    · obtain ⟨ht, h8, h9⟩ := tab_len (v := x / 256) (by omega)
      have hge : 1 ≤ bt tabB (x / 256) := by rcases h9 with h9 | h9 <;> omega
      refine ⟨bt tabB (x / 256) + 8, isLen_up (s := 8) ht h0 hge, by omega, by omega, ?_⟩
      refine Ev.succ ?_
      simp only [j0_eq]
      refine Ev.neg ha (Ev.pos hb ?_)
      rw [show x / 256 % 256 = x / 256 by omega]
      rw [fold _ (by omega)]
      refine Ev.some_ ?_
      have := ht.1
      rw [w64 (x := s + 8) (by omega), w64 (x := bt tabB (x / 256)) (by omega), w64 (by omega)]
      omega
    · obtain ⟨ht, h8, h9⟩ := tab_len (v := x) (by omega)
      refine ⟨bt tabB x, ht, by omega, by omega, ?_⟩
      refine Ev.succ ?_
      simp only [j0_eq]
      refine Ev.neg ha (Ev.neg hb ?_)
      rw [show x % 256 = x by omega]
      rw [fold _ (by omega)]
      refine Ev.some_ ?_
      have := ht.1
      rw [w64 (x := bt tabB x) (by omega), w64 (by omega)]
theorem len_f (x : Int) (h : 0 ≤ x ∧ x ≤ 18446744073709551615) : ∃ n, IsLen x n ∧ n ≤ 64 ∧ (x = 0 ∨ 1 ≤ n) ∧ Ev (fun k => bits_Len64.f k x) n := by
  unfold bits_Len64.f
  by_cases hx : x ≥ 4294967296
  · obtain ⟨n, hn, h1, h2, h3⟩ := len_j0 (x / 4294967296) 32 (by omega) (by omega) (by omega)
    refine ⟨n + (32 : Nat), isLen_up (s := 32) hn h.1 (by omega), by omega, by omega, Ev.pos hx ?_⟩
    rw [show n + ((32 : Nat) : Int) = 32 + n by omega]
    exact h3
  · obtain ⟨n, hn, h1, h2, h3⟩ := len_j0 x 0 (by omega) (by omega) (by omega)
    refine ⟨n, hn, by omega, h2, Ev.neg hx ?_⟩
    rw [Int.zero_add] at h3
    exact h3

/-- How many bits a place of a plan has: the least number from 1 on whose power of two is beyond the bounds' difference. -/
def IsBits (lo hi n : Int) : Prop := 1 ≤ n ∧ hi - lo < 2 ^ n.toNat ∧ (n = 1 ∨ 2 ^ (n - 1).toNat ≤ hi - lo)
theorem IsBits.unique {lo hi a b : Int} (ha : IsBits lo hi a) (hb : IsBits lo hi b) : a = b := by
  obtain ⟨a0, a1, a2⟩ := ha
  obtain ⟨b0, b1, b2⟩ := hb
  have key : ∀ a b : Int, 1 ≤ a → 1 ≤ b → hi - lo < 2 ^ a.toNat → (b = 1 ∨ 2 ^ (b - 1).toNat ≤ hi - lo) → b ≤ a := by
    intro a b ha hb h1 h2
    rcases h2 with h2 | h2
    · omega
    · rcases Int.lt_or_le a b with h | h
      · exfalso
        have h3 := two_le (a := a.toNat) (b := (b - 1).toNat) (by omega)
        omega
      · exact h
  have := key a b a0 b0 a1 b2
  have := key b a b0 a0 b1 a2
  omega
theorem IsBits.le40 {lo hi n : Int} (h : IsBits lo hi n) (hd : hi - lo < 1099511627776) : n ≤ 40 := by
  obtain ⟨h0, h1, h2⟩ := h
  rcases h2 with h2 | h2
  · omega
  · rcases Int.lt_or_le 40 n with h3 | h3
    · exfalso
      have h4 := two_le (a := 40) (b := (n - 1).toNat) (by omega)
      have h5 : (2 : Int) ^ 40 = 1099511627776 := by decide
      omega
    · exact h3
theorem isBits_exists {lo hi : Int} (h0 : lo ≤ hi) (hd : hi - lo < 1099511627776) : ∃ n, IsBits lo hi n := by
  obtain ⟨n, hn, h1, h2, _⟩ := len_f (hi - lo) (by omega)
  obtain ⟨a, b, c⟩ := hn
  by_cases h3 : n = 0
  · subst h3
    have hb : hi - lo < 1 := by simpa using b
    exact ⟨1, by omega, by simp; omega, Or.inl rfl⟩
  · refine ⟨n, by omega, b, ?_⟩
    rcases c with c | c
    · omega
    · exact Or.inr c

theorem bits_f (lo hi most n : Int) (es : List Int) (hn : soundE lo hi most es = 0 → IsBits lo hi n) (hl : es.length ≤ 9223372036854775806) (h1 : -9223372036854775808 ≤ lo ∧ lo ≤ 9223372036854775807) (h2 : -9223372036854775808 ≤ hi ∧ hi ≤ 9223372036854775807) :
    Ev (fun k => clamp_Bits.f k lo hi most es) (if soundE lo hi most es = 0 then (n, 0) else (0, soundE lo hi most es)) := by
  unfold clamp_Bits.f
  refine Ev.bind (sound_f lo hi most es hl h1 h2) ?_
  refine Ev.if_ (fun h => ?_) (fun h => ?_)
  · rw [if_pos h]
    obtain ⟨a, b, c, d, _⟩ := sound0 h
    rw [w64 (by omega), wu64 (by omega)]
    obtain ⟨m, hm, h3, h4, h5⟩ := len_f (hi - lo) (by omega)
    refine Ev.bind h5 (Ev.some_ ?_)
    have e : IsBits lo hi (mx m 1) := by
      obtain ⟨m0, m1, m2⟩ := hm
      unfold mx
      split
      · have : m = 0 := by omega
        subst this
        have hb : hi - lo < 1 := by simpa using m1
        exact ⟨by omega, by simp; omega, Or.inl rfl⟩
      · refine ⟨by omega, m1, ?_⟩
        rcases m2 with m2 | m2
        · omega
        · exact Or.inr m2
    rw [e.unique (hn h)]
  · rw [if_neg h]; exact Ev.now _

theorem shl_one {x : Int} (h : 0 ≤ x ∧ x ≤ 41) : shl .i64 1 x = 2 ^ x.toNat := by
  unfold shl
  have h1 : min x.toNat IntKind.i64.bits = x.toNat := by simp [IntKind.bits]; omega
  rw [h1, Int.one_mul, IntKind.wrap_i64]
  have h2 := two_le (a := x.toNat) (b := 41) (by omega)
  have h3 : (2 : Int) ^ 41 = 2199023255552 := by decide
  have h4 : (0 : Int) ≤ 2 ^ x.toNat := by
    have : (0 : Nat) ≤ 2 ^ x.toNat := Nat.zero_le _
    exact_mod_cast this
  omega
theorem refBits_l0 (lo hi most n : Int) (es : List Int) (hn : IsBits lo hi n) (h0 : lo ≤ hi) (hd : hi - lo < 1099511627776) : ∀ (d : Nat) (i : Int), n - i = d → 1 ≤ i →
    Ev (fun k => offertoryref09_Bits.l0 k i lo hi most es) n
  | d, i, he, h1 => by
    have h40 := hn.le40 hd
    obtain ⟨n0, n1, n2⟩ := hn
    refine Ev.succ ?_
    simp only [offertoryref09_Bits.l0]
    rw [wu64 (by omega), w64 (x := hi - lo) (by omega), w64 (x := i + 1) (by omega), shl_one (by omega)]
    refine Ev.pos (by omega) ?_
    by_cases hc : i = n
    · subst hc
      exact Ev.neg (by omega) (Ev.now _)
    · have h3 : (2 : Int) ^ i.toNat ≤ hi - lo := by
        rcases n2 with n2 | n2
        · omega
        · have := two_le (a := i.toNat) (b := (n - 1).toNat) (by omega)
          omega
      exact Ev.pos h3 (refBits_l0 lo hi most n es ⟨n0, n1, n2⟩ h0 hd (d - 1) (i + 1) (by omega) (by omega))
  termination_by d _ => d
  decreasing_by all_goals omega
theorem refBits_f (lo hi most n : Int) (es : List Int) (hn : IsBits lo hi n) (h0 : lo ≤ hi) (hd : hi - lo < 1099511627776) : Ev (fun k => offertoryref09_Bits.f k lo hi most es) n := by
  have := hn.1
  exact refBits_l0 lo hi most n es hn h0 hd (n - 1).toNat 1 (by omega) (by omega)

end Go.Proofs.Ythbiijhjcoakfaa.Plain
