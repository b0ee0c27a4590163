/- The library's division of a number of two words by one of one word, in whole numbers. -/
import Derived.Test.YthokkogdkpmdcaaPlainLen
namespace Go.Proofs.Ythokkogdkpmdcaa.Plain
open Go.RowKit Go.Proofs.Ythokkogdkpmdcaa.PAll Go.Proofs.Ythokkogdkpmdcaa.Opn Go.Proofs.Ythokkogdkpmdcaa.Base Go.Proofs.YthokkogdkpmdcaaW.PrintWords Go.Proofs.YthokkogdkpmdcaaW.PrintLast Go.Proofs.YthokkogdkpmdcaaW.PrintMore
set_option linter.unusedVariables false
set_option linter.unusedSimpArgs false

/-- A guess at one digit: the divisor y of two halves, what is divided, the digit, the guess and what it leaves. -/
structure Guess (y p z a b Q q r : Int) : Prop where
  hy : y = p * 4294967296 + z
  hp : 2147483648 ≤ p ∧ p < 4294967296
  hz : 0 ≤ z ∧ z < 4294967296
  ha : 0 ≤ a ∧ a < y
  hb : 0 ≤ b ∧ b < 4294967296
  h1 : Q * y ≤ a * 4294967296 + b
  h2 : a * 4294967296 + b < (Q + 1) * y
  hq : q * p + r = a
  hQ : Q ≤ q
  hr : 0 ≤ r ∧ r < 4294967296
  hm : q ≤ 4294967297
theorem Guess.pos {y p z a b Q q r : Int} (g : Guess y p z a b Q q r) : 0 ≤ Q := by
  have h2 := g.h2
  have hy := g.ha
  have hb := g.hb
  by_cases h : 0 ≤ Q
  · exact h
  · have : (Q + 1) * y ≤ 0 * y := Int.mul_le_mul_of_nonneg_right (by omega) (by omega)
    rw [Int.zero_mul] at this
    omega
theorem Guess.less {y p z a b Q q r : Int} (g : Guess y p z a b Q q r) : Q < 4294967296 := by
  have h1 := g.h1
  have hy := g.ha
  have hb := g.hb
  by_cases h : Q < 4294967296
  · exact h
  · have : 4294967296 * y ≤ Q * y := Int.mul_le_mul_of_nonneg_right (by omega) (by omega)
    omega
theorem Guess.prod {y p z a b Q q r : Int} (g : Guess y p z a b Q q r) : q * y = (a - r) * 4294967296 + q * z := by
  rw [g.hy, Int.mul_add, ← Int.mul_assoc, ← g.hq, show q * p + r - r = q * p by omega]
theorem Guess.again {y p z a b Q q r : Int} (g : Guess y p z a b Q q r) : (4294967296 ≤ q ∨ 4294967296 * r + b < q * z) ↔ Q < q := by
  have hl := g.less
  have hQ := g.hQ
  have hp := g.prod
  have h1 := g.h1
  have h2 := g.h2
  have hy := g.ha
  constructor
  · rintro (h | h)
    · omega
    · rcases Int.lt_or_eq_of_le hQ with e | e
      · exact e
      · rw [e] at h1
        omega
  · intro h
    by_cases hz : 4294967296 * r + b < q * z
    · exact Or.inr hz
    · have : (Q + 1) * y ≤ q * y := Int.mul_le_mul_of_nonneg_right (by omega) (by omega)
      omega
theorem Guess.out {y p z a b Q q r : Int} (g : Guess y p z a b Q q r) (hq : Q < q) (h : 4294967296 ≤ r + p) : q - 1 = Q := by
  have hy := g.hy
  have hp := g.hp
  have hz := g.hz
  have ha := g.ha
  have hb := g.hb
  have h0 := g.pos
  have e : (q - 1) * p + (r + p) = a := by rw [Int.sub_mul, Int.one_mul]; have := g.hq; omega
  have hs : q - 1 < 4294967296 := by
    by_cases hs : q - 1 < 4294967296
    · exact hs
    · have : 4294967296 * p ≤ (q - 1) * p := Int.mul_le_mul_of_nonneg_right (by omega) (by omega)
      omega
  have hzz : (q - 1) * z ≤ 4294967296 * z := Int.mul_le_mul_of_nonneg_right (by omega) (by omega)
  have e2 : (q - 1) * y = (a - (r + p)) * 4294967296 + (q - 1) * z := by
    rw [hy, Int.mul_add, ← Int.mul_assoc, ← e, show (q - 1) * p + (r + p) - (r + p) = (q - 1) * p by omega]
  have h2 := g.h2
  by_cases hh : Q + 1 ≤ q - 1
  · have : (Q + 1) * y ≤ (q - 1) * y := Int.mul_le_mul_of_nonneg_right hh (by omega)
    omega
  · omega
theorem Guess.next {y p z a b Q q r : Int} (g : Guess y p z a b Q q r) (hq : Q < q) (h : r + p < 4294967296) : Guess y p z a b Q (q - 1) (r + p) := by
  have hp := g.hp
  have hr := g.hr
  have hm := g.hm
  refine { g with hq := ?_, hQ := by omega, hr := by omega, hm := by omega }
  rw [Int.sub_mul, Int.one_mul]; have := g.hq; omega
theorem Guess.first {y p z a b : Int} (hy : y = p * 4294967296 + z) (hp : 2147483648 ≤ p ∧ p < 4294967296) (hz : 0 ≤ z ∧ z < 4294967296) (ha : 0 ≤ a ∧ a < y) (hb : 0 ≤ b ∧ b < 4294967296) :
    Guess y p z a b ((a * 4294967296 + b) / y) (a / p) (a - a / p * p) := by
  have hy0 : 0 < y := by omega
  have e1 := Int.mul_ediv_add_emod (a * 4294967296 + b) y
  have e2 := Int.emod_nonneg (a * 4294967296 + b) (b := y) (by omega)
  have e3 := Int.emod_lt_of_pos (a * 4294967296 + b) hy0
  have f1 := Int.mul_ediv_add_emod a p
  have f2 := Int.emod_nonneg a (b := p) (by omega)
  have f3 := Int.emod_lt_of_pos a (b := p) (by omega)
  have c1 : (a * 4294967296 + b) / y * y = y * ((a * 4294967296 + b) / y) := Int.mul_comm _ _
  have c2 : a / p * p = p * (a / p) := Int.mul_comm _ _
  have g0 : 0 ≤ a / p := Int.ediv_nonneg ha.1 (by omega)
  have gm : a / p ≤ 4294967297 := by
    by_cases h : a / p ≤ 4294967297
    · exact h
    · have : 4294967298 * p ≤ a / p * p := Int.mul_le_mul_of_nonneg_right (by omega) (by omega)
      omega
  refine ⟨hy, hp, hz, ha, hb, by omega, ?_, by omega, ?_, by omega, gm⟩
  · rw [Int.add_mul, Int.one_mul]; omega
  · generalize hQ : (a * 4294967296 + b) / y = Q at *
    generalize hq : a / p = q at *
    by_cases h : Q ≤ q
    · exact h
    · exfalso
      have m1 : (q + 1) * y ≤ Q * y := Int.mul_le_mul_of_nonneg_right (by omega) (by omega)
      have m2 : (q + 1) * y = (q + 1) * p * 4294967296 + (q + 1) * z := by rw [hy, Int.mul_add, Int.mul_assoc]
      have m3 : (q + 1) * p = q * p + p := by rw [Int.add_mul, Int.one_mul]
      have m4 : 0 ≤ (q + 1) * z := Int.mul_nonneg (by omega) hz.1
      omega
theorem mul_le_int {a b c d : Int} (h0 : 0 ≤ a) (h1 : a ≤ c) (h2 : 0 ≤ b) (h3 : b ≤ d) : 0 ≤ a * b ∧ a * b ≤ c * d :=
  ⟨Int.mul_nonneg h0 h2, Int.le_trans (Int.mul_le_mul_of_nonneg_right h1 h2) (Int.mul_le_mul_of_nonneg_left h3 (by omega))⟩
theorem Guess.test {y p z a b Q q r : Int} (g : Guess y p z a b Q q r) (h : ¬ q ≥ 4294967296) :
    decide ((IntKind.u64.wrap (q * z)) > (IntKind.u64.wrap ((IntKind.u64.wrap (4294967296 * r)) + b))) = decide (Q < q) := by
  have hr := g.hr
  have hb := g.hb
  have hz := g.hz
  have h0 := g.pos
  have hQ := g.hQ
  have m := mul_le_int (a := q) (b := z) (c := 4294967295) (d := 4294967295) (by omega) (by omega) (by omega) (by omega)
  rw [wu64 (x := 4294967296 * r) (by omega), wu64 (x := 4294967296 * r + b) (by omega), wu64 (x := q * z) (by omega)]
  refine decide_eq_decide.2 ?_
  have := g.again
  constructor
  · intro hh; exact this.1 (Or.inr hh)
  · intro hh
    rcases this.2 hh with e | e
    · omega
    · exact e
theorem dig1 {y p z a b Q s u R1 R2 : Int} (hk : Ev (fun k => bits_Div64.j2 k y s p z a b u Q) (R1, R2)) : ∀ q r : Int, Guess y p z a b Q q r →
    Ev (fun k => bits_Div64.l0 k y s p z a b u q r) (R1, R2) := fun q r g => by
  have hp := g.hp
  have hr := g.hr
  have hm := g.hm
  have hQ := g.hQ
  have h0 := g.pos
  have key : ∀ c : Bool, c = decide (Q < q) → Ev (fun k => bits_Div64.j1 k y s p z a b u q r c) (R1, R2) := by
    rintro c rfl
    refine Ev.succ ?_
    simp only [bits_Div64.j1]
    by_cases h : Q < q
    · refine Ev.pos (by simpa using h) ?_
      rw [wu64 (x := q - 1) (by omega), wu64 (x := r + p) (by omega)]
      refine Ev.if_ (fun h2 => ?_) (fun h2 => ?_)
      · rw [g.out h h2]; exact hk
      · exact dig1 hk (q - 1) (r + p) (g.next h (by omega))
    · refine Ev.neg (by simpa using h) ?_
      rw [show q = Q by omega]; exact hk
  refine Ev.succ ?_
  simp only [bits_Div64.l0]
  refine Ev.if_ (fun h => ?_) (fun h => ?_)
  · exact key true (decide_eq_true (g.again.1 (Or.inl h))).symm
  · exact key _ (g.test h)
termination_by q r g => (4294967296 - r).toNat
decreasing_by omega
theorem dig2 {y p z a b Q s m t : Int} (hs : 0 ≤ s) : ∀ q r : Int, Guess y p z a b Q q r →
    Ev (fun k => bits_Div64.l1 k y s p z b m r t q) ((IntKind.u64.wrap ((IntKind.u64.wrap (m * 4294967296)) + Q), shr .u64 (IntKind.u64.wrap ((IntKind.u64.wrap ((IntKind.u64.wrap (t * 4294967296)) + b)) - (IntKind.u64.wrap (Q * y)))) s)) := fun q r g => by
  have hp := g.hp
  have hr := g.hr
  have hm := g.hm
  have hQ := g.hQ
  have h0 := g.pos
  have key : ∀ c : Bool, c = decide (Q < q) → Ev (fun k => bits_Div64.j4 k y s p z b m r t q c) ((IntKind.u64.wrap ((IntKind.u64.wrap (m * 4294967296)) + Q), shr .u64 (IntKind.u64.wrap ((IntKind.u64.wrap ((IntKind.u64.wrap (t * 4294967296)) + b)) - (IntKind.u64.wrap (Q * y)))) s)) := by
    rintro c rfl
    refine Ev.succ ?_
    simp only [bits_Div64.j4]
    by_cases h : Q < q
    · refine Ev.pos (by simpa using h) ?_
      rw [wu64 (x := q - 1) (by omega), wu64 (x := r + p) (by omega)]
      refine Ev.if_ (fun h2 => ?_) (fun h2 => ?_)
      · rw [g.out h h2]; exact Ev.pos hs (Ev.some_ rfl)
      · exact dig2 hs (q - 1) (r + p) (g.next h (by omega))
    · refine Ev.neg (by simpa using h) ?_
      rw [show q = Q by omega]; exact Ev.pos hs (Ev.some_ rfl)
  refine Ev.succ ?_
  simp only [bits_Div64.l1]
  refine Ev.if_ (fun h => ?_) (fun h => ?_)
  · exact key true (decide_eq_true (g.again.1 (Or.inl h))).symm
  · exact key _ (g.test h)
termination_by q r g => (4294967296 - r).toNat
decreasing_by omega
/-- What is left of two words without a digit's part of the divisor. -/
theorem left_ {a b Q y : Int} (h1 : Q * y ≤ a * 4294967296 + b) (h2 : a * 4294967296 + b < (Q + 1) * y) (hy : y ≤ 18446744073709551615) :
    IntKind.u64.wrap ((IntKind.u64.wrap ((IntKind.u64.wrap (a * 4294967296)) + b)) - (IntKind.u64.wrap (Q * y))) = a * 4294967296 + b - Q * y := by
  rw [Int.add_mul, Int.one_mul] at h2
  simp only [IntKind.wrap_u64]
  generalize Q * y = P at *
  omega
/-- A normed divisor: both digits. -/
theorem norm_f {y p z a b1 b0 s : Int} (hy : y = p * 4294967296 + z) (hp : 2147483648 ≤ p ∧ p < 4294967296) (hz : 0 ≤ z ∧ z < 4294967296) (ha : 0 ≤ a ∧ a < y) (hb : 0 ≤ b1 ∧ b1 < 4294967296) (hb0 : 0 ≤ b0 ∧ b0 < 4294967296) (hs : 0 ≤ s ∧ s ≤ 64) :
    Ev (fun k => bits_Div64.l0 k y s p z a b1 b0 (IntKind.u64.wrap (Int.tdiv a p)) (IntKind.u64.wrap (a - IntKind.u64.wrap (IntKind.u64.wrap (Int.tdiv a p) * p))))
      ((a * 18446744073709551616 + b1 * 4294967296 + b0) / y, ((a * 18446744073709551616 + b1 * 4294967296 + b0) % y) / 2 ^ s.toNat) := by
  have st : ∀ c : Int, 0 ≤ c ∧ c < y → IntKind.u64.wrap (Int.tdiv c p) = c / p ∧ IntKind.u64.wrap (c - IntKind.u64.wrap (IntKind.u64.wrap (Int.tdiv c p) * p)) = c - c / p * p := by
    intro c hc
    have g := Guess.first hy hp hz hc hb
    have hr := g.hr
    have hq := g.hq
    have h0 := g.pos
    have hQ := g.hQ
    have hm := g.hm
    have e : IntKind.u64.wrap (Int.tdiv c p) = c / p := by
      rw [Int.tdiv_eq_ediv_of_nonneg hc.1]
      exact wu64 (by omega)
    refine ⟨e, ?_⟩
    rw [e]
    simp only [IntKind.wrap_u64]
    generalize c / p * p = P at *
    omega
  have g1 := Guess.first hy hp hz ha hb
  have e1 := (st a ha).1
  have e2 := (st a ha).2
  rw [e2, e1]
  refine dig1 ?_ _ _ g1
  have hl1 := g1.less
  have hl0 := g1.pos
  have q1 := g1.h1
  have q2 := g1.h2
  generalize hQ1 : (a * 4294967296 + b1) / y = Q1 at *
  have hP : IntKind.u64.wrap ((IntKind.u64.wrap ((IntKind.u64.wrap (a * 4294967296)) + b1)) - (IntKind.u64.wrap (Q1 * y))) = a * 4294967296 + b1 - Q1 * y := left_ q1 q2 (by omega)
  refine Ev.succ ?_
  simp only [bits_Div64.j2]
  refine Ev.neg (by omega) ?_
  rw [hP]
  rw [Int.add_mul, Int.one_mul] at q2
  have hc : 0 ≤ a * 4294967296 + b1 - Q1 * y ∧ a * 4294967296 + b1 - Q1 * y < y := by omega
  generalize hA : a * 4294967296 + b1 - Q1 * y = A at *
  have g2 := Guess.first hy hp hz hc hb0
  rw [(st A hc).2, (st A hc).1]
  have d := dig2 (m := Q1) (t := A) hs.1 _ _ g2
  have hl2 := g2.less
  have hl20 := g2.pos
  have r1 := g2.h1
  have r2 := g2.h2
  generalize hQ2 : (A * 4294967296 + b0) / y = Q2 at *
  rw [left_ r1 r2 (by omega), shr_eq hs.1 hs.2, wu64 (x := Q1 * 4294967296) (by omega), wu64 (x := Q1 * 4294967296 + Q2) (by omega)] at d
  rw [Int.add_mul, Int.one_mul] at r2
  have hU : a * 18446744073709551616 + b1 * 4294967296 + b0 = (A * 4294967296 + b0 - Q2 * y) + y * (Q1 * 4294967296 + Q2) := by
    rw [Int.mul_add, ← Int.mul_assoc, Int.mul_comm y Q1, Int.mul_comm y Q2]
    omega
  have f1 : (a * 18446744073709551616 + b1 * 4294967296 + b0) / y = Q1 * 4294967296 + Q2 := by
    rw [hU, Int.add_mul_ediv_left _ _ (by omega), Int.ediv_eq_zero_of_lt (by omega) (by omega), Int.zero_add]
  have f2 : (a * 18446744073709551616 + b1 * 4294967296 + b0) % y = A * 4294967296 + b0 - Q2 * y := by
    rw [hU, Int.add_mul_emod_self_left, Int.emod_eq_of_lt (by omega) (by omega)]
  rw [f1, f2]
  exact d
theorem emod_pow {x y p : Int} (hp : 0 < p) : (x * p) % (y * p) = x % y * p := by
  rw [Int.mul_comm x, Int.mul_comm y, Int.mul_emod_mul_of_pos _ _ hp, Int.mul_comm]
theorem and_mask {x : Int} (h : 0 ≤ x ∧ x ≤ 18446744073709551615) : Go.bits .and .u64 x 4294967295 = x % 4294967296 := by
  obtain ⟨a, rfl⟩ := Int.eq_ofNat_of_zero_le h.1
  rw [show (4294967295 : Int) = ((4294967295 : Nat) : Int) from rfl, bits_and_u64_nat _ _ (by omega) (by omega), show (4294967295 : Nat) = 2 ^ 32 - 1 from rfl, Nat.and_two_pow_sub_one_eq_mod]
  rw [Int.natCast_emod]
  rfl
/-- What the library's Div64 answers. -/
theorem div64_f {hi lo y : Int} (h : 0 ≤ hi ∧ hi < y) (hy : y ≤ 18446744073709551615) (l : 0 ≤ lo ∧ lo ≤ 18446744073709551615) :
    Ev (fun k => bits_Div64.f k hi lo y) ((lo + hi * 18446744073709551616) / y, (lo + hi * 18446744073709551616) % y) := by
  unfold bits_Div64.f
  refine Ev.neg (by omega) (Ev.neg (by omega) ?_)
  refine Ev.if_ (fun h0 => ?_) (fun h0 => ?_)
  · refine Ev.some_ ?_
    subst h0
    rw [Int.zero_mul, Int.add_zero, Int.tdiv_eq_ediv_of_nonneg l.1, Int.tmod_eq_emod_of_nonneg l.1, wu64]
    refine ⟨Int.ediv_nonneg l.1 (by omega), ?_⟩
    have := Int.ediv_le_self y l.1
    omega
  · obtain ⟨n, hn, hn64, hn1, hlen⟩ := len_f y (by omega)
    obtain ⟨hn0, hlt, hge⟩ := hn
    have hn1 : 1 ≤ n := by rcases hn1 with e | e <;> omega
    have hge : (2 : Int) ^ (n - 1).toNat ≤ y := by
      rcases hge with e | e
      · omega
      · exact e
    have hlz : Ev (fun k => bits_LeadingZeros64.f k y) (64 - n) := by
      unfold bits_LeadingZeros64.f
      refine Ev.bind hlen (Ev.some_ ?_)
      exact w64 (by omega)
    refine Ev.bind hlz ?_
    rw [wu64 (x := 64 - n) (by omega), wu64 (x := 64 - (64 - n)) (by omega), show 64 - (64 - n) = n by omega]
    refine Ev.pos (by omega) (Ev.pos (by omega) ?_)
    obtain ⟨s, hs⟩ : ∃ s : Nat, 64 - n = s := ⟨(64 - n).toNat, by omega⟩
    rw [hs]
    have hsn : n.toNat + s = 64 := by omega
    have hps := pow_split hsn
    have hp := two_pos s
    have hpn := two_pos n.toNat
    have hpn1 : (2 : Int) ^ n.toNat = 2 * 2 ^ (n - 1).toNat := by
      rw [show n.toNat = (n - 1).toNat + 1 by omega, Int.pow_succ, Int.mul_comm]
    have s1 : ∀ x : Int, shl .u64 x (s : Int) = (x * 2 ^ s) % 18446744073709551616 := fun x => by rw [shl_eq (by omega) (by omega)]; rfl
    have y1 : y * 2 ^ s ≤ 18446744073709551615 := by
      have : (y + 1) * 2 ^ s ≤ 2 ^ n.toNat * 2 ^ s := Int.mul_le_mul_of_nonneg_right (by omega) (by omega)
      rw [Int.add_mul, Int.one_mul] at this
      omega
    have y0 : 9223372036854775808 ≤ y * 2 ^ s := by
      have : 2 ^ (n - 1).toNat * 2 ^ s ≤ y * 2 ^ s := Int.mul_le_mul_of_nonneg_right hge (by omega)
      rw [hpn1, Int.mul_assoc] at hps
      omega
    have hh : hi * 2 ^ s + 2 ^ s ≤ y * 2 ^ s := by
      have : (hi + 1) * 2 ^ s ≤ y * 2 ^ s := Int.mul_le_mul_of_nonneg_right (by omega) (by omega)
      rw [Int.add_mul, Int.one_mul] at this
      exact this
    have hh0 : 0 ≤ hi * 2 ^ s := Int.mul_nonneg h.1 (by omega)
    have eY : shl .u64 y (s : Int) = y * 2 ^ s := by rw [s1]; exact Int.emod_eq_of_lt (by omega) (by omega)
    have eH : shl .u64 hi (s : Int) = hi * 2 ^ s := by rw [s1]; exact Int.emod_eq_of_lt (by omega) (by omega)
    have eL : shr .u64 lo n = lo / 2 ^ n.toNat := shr_eq (by omega) (by omega)
    have hq0 : 0 ≤ lo / 2 ^ n.toNat := Int.ediv_nonneg l.1 (by omega)
    have hq1 : lo / 2 ^ n.toNat < 2 ^ s := by
      refine Int.ediv_lt_of_lt_mul hpn ?_
      rw [Int.mul_comm, hps]
      omega
    have eU : Go.bits .or .u64 (hi * 2 ^ s) (lo / 2 ^ n.toNat) = hi * 2 ^ s + lo / 2 ^ n.toNat := or_pow h.1 (by omega) hq0 hq1 (by omega)
    -- the low word
    have hlo : lo * 2 ^ s = (lo / 2 ^ n.toNat) * 18446744073709551616 + lo % 2 ^ n.toNat * 2 ^ s := by
      have e := Int.mul_ediv_add_emod lo (2 ^ n.toNat)
      have : lo * 2 ^ s = (2 ^ n.toNat * (lo / 2 ^ n.toNat) + lo % 2 ^ n.toNat) * 2 ^ s := by rw [e]
      rw [this, Int.add_mul, ← hps, Int.mul_comm (2 ^ n.toNat) (lo / 2 ^ n.toNat), Int.mul_assoc]
    have hm0 : 0 ≤ lo % 2 ^ n.toNat * 2 ^ s := Int.mul_nonneg (Int.emod_nonneg _ (by omega)) (by omega)
    have hm1 : lo % 2 ^ n.toNat * 2 ^ s < 18446744073709551616 := by
      have h3 := Int.emod_lt_of_pos lo hpn
      have : (lo % 2 ^ n.toNat + 1) * 2 ^ s ≤ 2 ^ n.toNat * 2 ^ s := Int.mul_le_mul_of_nonneg_right (by omega) (by omega)
      rw [Int.add_mul, Int.one_mul] at this
      omega
    have eW : shl .u64 lo (s : Int) = lo % 2 ^ n.toNat * 2 ^ s := by rw [s1, hlo]; omega
    have hT : (lo + hi * 18446744073709551616) * 2 ^ s = hi * 2 ^ s * 18446744073709551616 + lo * 2 ^ s := by
      rw [Int.add_mul, Int.mul_assoc, Int.mul_comm 18446744073709551616, ← Int.mul_assoc]; omega
    rw [eY, eH, eL, eU, eW, and_mask (by omega), and_mask (by omega)]
    generalize hY : y * 2 ^ s = Y at *
    generalize hA : hi * 2 ^ s + lo / 2 ^ n.toNat = A at *
    generalize hB : lo % 2 ^ n.toNat * 2 ^ s = B at *
    have hAY : 0 ≤ A ∧ A < Y := by omega
    refine Ev.neg (by omega) ?_
    have R := norm_f (y := Y) (p := Y / 4294967296) (z := Y % 4294967296) (a := A) (b1 := B / 4294967296) (b0 := B % 4294967296) (s := s) (by omega) (by omega) (by omega) hAY (by omega) (by omega) (by omega)
    have eT : A * 18446744073709551616 + B / 4294967296 * 4294967296 + B % 4294967296 = (lo + hi * 18446744073709551616) * 2 ^ s := by
      rw [hT, hlo]
      omega
    rw [eT, ← hY, Int.mul_ediv_mul_of_pos_left _ _ hp, emod_pow hp] at R
    rw [hY] at R
    have ep : lo + hi * 18446744073709551616 = lo + hi * 18446744073709551616 := rfl
    rw [show ((s : Int)).toNat = s from rfl, Int.mul_ediv_cancel _ (by omega)] at R
    exact R
end Go.Proofs.Ythokkogdkpmdcaa.Plain
