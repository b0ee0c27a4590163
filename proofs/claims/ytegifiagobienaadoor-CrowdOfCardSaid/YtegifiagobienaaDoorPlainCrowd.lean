/- Sets as bits, in whole numbers: what a set lists, how many it has, and the printed functions of crowd. -/
import Derived.Test.YtegifiagobienaaDoorPAllx
import Derived.Test.YtegifiagobienaaDoorBase
import Derived.Laws.Bits64b
import Derived.Lib.TrailingZeros
namespace Go.Proofs.YtegifiagobienaaDoor.Plain
open Go.RowKit Go.Proofs.YtegifiagobienaaDoor.PAll Go.Proofs.YtegifiagobienaaDoor.Opn Go.Proofs.YtegifiagobienaaDoor.Base Go.Proofs.YtegifiagobienaaDoorW.PrintWords Go.Proofs.YtegifiagobienaaDoorW.PrintLast Go.Proofs.YtegifiagobienaaDoorW.PrintMore
set_option linter.unusedVariables false
set_option linter.unusedSimpArgs false

theorem shl_eq {x y : Int} (h0 : 0 ≤ y) (h1 : y ≤ 64) : shl .u64 x y = (x * 2 ^ y.toNat) % 18446744073709551616 := by
  unfold shl
  rw [IntKind.wrap_u64, show min y.toNat IntKind.u64.bits = y.toNat by simp [IntKind.bits]; omega]
theorem shr_eq {x y : Int} (h0 : 0 ≤ y) (h1 : y ≤ 64) : shr .u64 x y = x / 2 ^ y.toNat := by
  unfold shr
  rw [show min y.toNat IntKind.u64.bits = y.toNat by simp [IntKind.bits]; omega]

/-- The numbers of the set bits of x (n of them looked at), each by one more, from i on. -/
def lst : Nat → Nat → Nat → List Int
  | 0, _, _ => []
  | n + 1, i, x => if x % 2 = 1 then ((i : Int) + 1) :: lst n (i + 1) (x / 2) else lst n (i + 1) (x / 2)
def cnt : Nat → Nat → Nat
  | 0, _ => 0
  | n + 1, x => x % 2 + cnt n (x / 2)
theorem lst_length : ∀ (n i x : Nat), (lst n i x).length = cnt n x
  | 0, _, _ => rfl
  | n + 1, i, x => by
    unfold lst cnt
    have := lst_length n (i + 1) (x / 2)
    split
    · rename_i h; rw [List.length_cons, this]; omega
    · rw [this]; omega
theorem cnt_le : ∀ (n x : Nat), cnt n x ≤ n
  | 0, _ => Nat.le_refl _
  | n + 1, x => by
    unfold cnt
    have := cnt_le n (x / 2)
    omega
theorem lst_zero : ∀ (n i : Nat), lst n i 0 = []
  | 0, _ => rfl
  | n + 1, i => by unfold lst; simp [lst_zero n (i + 1)]
theorem and_pred_odd (y : Nat) : (2 * y + 1) &&& (2 * y) = 2 * y := by
  apply Nat.eq_of_testBit_eq
  intro i
  rw [Nat.testBit_and]
  cases i with
  | zero => simp [Nat.testBit_zero]
  | succ i =>
    rw [Nat.testBit_succ, Nat.testBit_succ, show (2 * y + 1) / 2 = y by omega, show 2 * y / 2 = y by omega]
    simp
theorem and_pred_even (y : Nat) (h : 0 < y) : (2 * y) &&& (2 * y - 1) = 2 * (y &&& (y - 1)) := by
  apply Nat.eq_of_testBit_eq
  intro i
  rw [Nat.testBit_and]
  cases i with
  | zero => simp [Nat.testBit_zero]
  | succ i =>
    rw [Nat.testBit_succ, Nat.testBit_succ, Nat.testBit_succ, show (2 * y - 1) / 2 = y - 1 by omega, show 2 * y / 2 = y by omega, show 2 * (y &&& (y - 1)) / 2 = (y &&& (y - 1)) by omega, Nat.testBit_and]
theorem lst_step : ∀ (n i x : Nat), x ≠ 0 → x < 2 ^ n → lst n i x = ((i + Lib.ctzFrom n x : Nat) + 1 : Int) :: lst n i (x &&& (x - 1))
  | 0, _, x, h0, h => by simp at h; omega
  | n + 1, i, x, h0, h => by
    by_cases ho : x % 2 = 1
    · obtain ⟨y, rfl⟩ : ∃ y, x = 2 * y + 1 := ⟨x / 2, by omega⟩
      rw [show 2 * y + 1 - 1 = 2 * y by omega, and_pred_odd]
      have e : Lib.ctzFrom (n + 1) (2 * y + 1) = 0 := by unfold Lib.ctzFrom; rw [if_pos ho]
      rw [e, Nat.add_zero]
      unfold lst
      rw [if_pos ho, if_neg (by omega), show (2 * y + 1) / 2 = y by omega, show 2 * y / 2 = y by omega]
      rfl
    · obtain ⟨y, rfl⟩ : ∃ y, x = 2 * y := ⟨x / 2, by omega⟩
      rw [and_pred_even y (by omega)]
      have e : Lib.ctzFrom (n + 1) (2 * y) = 1 + Lib.ctzFrom n y := by
        unfold Lib.ctzFrom; rw [if_neg ho, show 2 * y / 2 = y by omega]; cases n <;> rfl
      rw [e]
      have h' : y < 2 ^ n := by rw [Nat.pow_succ] at h; omega
      have ih := lst_step n (i + 1) y (by omega) h'
      unfold lst
      rw [if_neg ho, if_neg (by omega), show 2 * y / 2 = y by omega, show 2 * (y &&& (y - 1)) / 2 = y &&& (y - 1) by omega, ih, show i + 1 + Lib.ctzFrom n y = i + (1 + Lib.ctzFrom n y) by omega]
/-- What a set lists. -/
def L (x : Nat) : List Int := lst 64 0 x
theorem L_len (x : Nat) : (L x).length ≤ 64 := by unfold L; rw [lst_length]; exact cnt_le _ _
theorem L_step (x : Nat) (h0 : x ≠ 0) (h : x < 18446744073709551616) : L x = ((Lib.ctz 64 x : Nat) + 1 : Int) :: L (x &&& (x - 1)) := by
  unfold L Lib.ctz
  rw [if_neg h0, lst_step 64 0 x h0 h, Nat.zero_add]
theorem ctz_lt (x : Nat) (h0 : x ≠ 0) (h : x < 18446744073709551616) : Lib.ctz 64 x < 64 := (Lib.lowest_bit 64 x h0 h).2
/-- What the program's List answers. -/
theorem list_l0 : ∀ (d x : Nat) (acc : List Int), x < 18446744073709551616 → (L x).length = d → acc.length + d ≤ 64 → Ev (fun k => crowd_List.l0 k (x : Int) acc) (acc ++ L x) := by
  intro d
  induction d with
  | zero =>
    intro x acc hx hd hl
    have h0 : x = 0 := by
      apply Decidable.byContradiction
      intro h0
      rw [L_step x h0 hx] at hd
      cases hd
    subst h0
    refine Ev.succ ?_
    simp only [crowd_List.l0]
    refine Ev.pos rfl ?_
    refine Ev.some_ ?_
    rw [show L 0 = [] from lst_zero _ _, List.append_nil]
  | succ d ih =>
    intro x acc hx hd hl
    have h0 : x ≠ 0 := by
      rintro rfl
      rw [show L 0 = [] from lst_zero _ _] at hd
      cases hd
    have hs := L_step x h0 hx
    rw [hs] at hd
    have hc := ctz_lt x h0 hx
    refine Ev.succ ?_
    simp only [crowd_List.l0]
    refine Ev.neg (by omega) ?_
    refine Ev.bind0 (a := (Lib.ctz 64 x : Int)) ?_ ?_
    · unfold bits_TrailingZeros64.f
      rw [if_pos (by omega), Int.toNat_natCast]
    refine Ev.pos (by omega) ?_
    have e1 : IntKind.u64.wrap ((x : Int) - 1) = ((x - 1 : Nat) : Int) := by rw [IntKind.wrap_u64]; omega
    have e2 : Go.bits .and .u64 (x : Int) ((x - 1 : Nat) : Int) = ((x &&& (x - 1) : Nat) : Int) := bits_and_u64_nat _ _ hx (by omega)
    rw [e1, e2, w64 (by omega)]
    have hle : x &&& (x - 1) ≤ x := Nat.and_le_left
    have := ih (x &&& (x - 1)) (acc ++ [(Lib.ctz 64 x : Int) + 1]) (by omega) (by simpa using hd) (by simp; omega)
    rw [hs, show acc ++ ((Lib.ctz 64 x : Int) + 1) :: L (x &&& (x - 1)) = acc ++ [(Lib.ctz 64 x : Int) + 1] ++ L (x &&& (x - 1)) by simp]
    exact this
theorem list_f (x : Nat) (hx : x < 18446744073709551616) : Ev (fun k => crowd_List.f k (x : Int)) (L x) := by
  have := list_l0 _ x [] hx rfl (by have := L_len x; simpa using this)
  rw [List.nil_append] at this
  exact this

/-! ### how many there are -/
theorem and_split (n a u m M : Nat) (ha : a < 2 ^ n) (hm : m < 2 ^ n) : (2 ^ n * u + a) &&& (2 ^ n * M + m) = 2 ^ n * (u &&& M) + (a &&& m) := by
  have hlt : a &&& m < 2 ^ n := Nat.lt_of_le_of_lt Nat.and_le_left ha
  apply Nat.eq_of_testBit_eq
  intro i
  rw [Nat.testBit_and, Nat.testBit_two_pow_mul_add _ ha, Nat.testBit_two_pow_mul_add _ hm, Nat.testBit_two_pow_mul_add _ hlt]
  split
  · rw [Nat.testBit_and]
  · rw [Nat.testBit_and]
theorem and_split8 (a u m M : Nat) (ha : a < 256) (hm : m < 256) : (a + 256 * u) &&& (m + 256 * M) = (a &&& m) + 256 * (u &&& M) := by
  have := and_split 8 a u m M ha hm
  rw [Nat.add_comm a, Nat.add_comm m, Nat.add_comm (a &&& m)]
  exact this
def mk (b : Nat) : Nat → Nat
  | 0 => 0
  | n + 1 => b + 256 * mk b n
def S1 (n x : Nat) : Nat := ((x / 2) &&& mk 85 n) + (x &&& mk 85 n)
def S2 (n x : Nat) : Nat := ((x / 4) &&& mk 51 n) + (x &&& mk 51 n)
def S3 (n x : Nat) : Nat := (x / 16 + x) &&& mk 15 n
theorem byte1 : ∀ b : Fin 256, ∀ e : Fin 2, (b.val / 2 + 128 * e.val) &&& 85 = b.val / 2 &&& 85 := by decide +kernel
theorem byte2 : ∀ b : Fin 256, ∀ e : Fin 4, (b.val / 4 + 64 * e.val) &&& 51 = b.val / 4 &&& 51 := by decide +kernel
theorem byte3 : ∀ b : Fin 256, b.val &&& 15 = b.val % 16 := by decide +kernel
theorem byteS : ∀ b : Fin 256, ((b.val / 2 &&& 85) + (b.val &&& 85)) < 256 := by decide +kernel
theorem byteT : ∀ b : Fin 256, ((b.val / 4 &&& 51) + (b.val &&& 51)) < 256 ∧ (b.val / 4 &&& 51) % 16 ≤ 3 ∧ (b.val &&& 51) % 16 ≤ 3 ∧ (b.val / 4 &&& 51) + (b.val &&& 51) ≤ 102 := by decide +kernel
theorem byteU : ∀ b : Fin 256, ((((((b.val / 2 &&& 85) + (b.val &&& 85)) / 4 &&& 51) + (((b.val / 2 &&& 85) + (b.val &&& 85)) &&& 51)) / 16 + ((((b.val / 2 &&& 85) + (b.val &&& 85)) / 4 &&& 51) + (((b.val / 2 &&& 85) + (b.val &&& 85)) &&& 51))) % 16) = cnt 8 b.val ∧ cnt 8 b.val ≤ 8 := by decide +kernel
theorem S1_step (n b r : Nat) (hb : b < 256) : S1 (n + 1) (b + 256 * r) = ((b / 2 &&& 85) + (b &&& 85)) + 256 * S1 n r := by
  have hm : mk 85 (n + 1) = 85 + 256 * mk 85 n := rfl
  unfold S1
  rw [hm]
  rw [show (b + 256 * r) / 2 = (b / 2 + 128 * (r % 2)) + 256 * (r / 2) by omega, and_split8 _ _ _ _ (by omega) (by decide), and_split8 _ _ _ _ hb (by decide)]
  have := byte1 ⟨b, hb⟩ ⟨r % 2, Nat.mod_lt _ (by decide)⟩
  simp only at this
  rw [this]
  omega
theorem S2_step (n b r : Nat) (hb : b < 256) : S2 (n + 1) (b + 256 * r) = ((b / 4 &&& 51) + (b &&& 51)) + 256 * S2 n r := by
  have hm : mk 51 (n + 1) = 51 + 256 * mk 51 n := rfl
  unfold S2
  rw [hm]
  rw [show (b + 256 * r) / 4 = (b / 4 + 64 * (r % 4)) + 256 * (r / 4) by omega, and_split8 _ _ _ _ (by omega) (by decide), and_split8 _ _ _ _ hb (by decide)]
  have := byte2 ⟨b, hb⟩ ⟨r % 4, Nat.mod_lt _ (by decide)⟩
  simp only at this
  rw [this]
  omega
theorem S2_mod (n x : Nat) : S2 n x % 16 ≤ 6 := by
  cases n with
  | zero => unfold S2 mk; simp
  | succ n =>
    have e : x = x % 256 + 256 * (x / 256) := by omega
    rw [e, S2_step n _ _ (Nat.mod_lt _ (by decide))]
    have := byteT ⟨x % 256, Nat.mod_lt _ (by decide)⟩
    simp only at this
    omega
theorem S3_step (n c s : Nat) (hc : c ≤ 102) (hs : s % 16 ≤ 6) : S3 (n + 1) (c + 256 * s) = (c / 16 + c) % 16 + 256 * S3 n s := by
  have hm : mk 15 (n + 1) = 15 + 256 * mk 15 n := rfl
  unfold S3
  rw [hm]
  rw [show (c + 256 * s) / 16 + (c + 256 * s) = (c / 16 + c + 16 * (s % 16)) + 256 * (s / 16 + s) by omega, and_split8 _ _ _ _ (by omega) (by decide)]
  have := byte3 ⟨c / 16 + c + 16 * (s % 16), by omega⟩
  simp only at this
  rw [this]
  omega
def T3 (n x : Nat) : Nat := S3 n (S2 n (S1 n x))
theorem T3_step (n b r : Nat) (hb : b < 256) : T3 (n + 1) (b + 256 * r) = cnt 8 b + 256 * T3 n r := by
  unfold T3
  have h1 := byteS ⟨b, hb⟩
  simp only at h1
  have h2 := byteT ⟨(b / 2 &&& 85) + (b &&& 85), h1⟩
  simp only at h2
  have h3 := byteU ⟨b, hb⟩
  simp only at h3
  rw [S1_step n b r hb, S2_step n _ _ h1, S3_step n _ _ h2.2.2.2 (S2_mod _ _), h3.1]
theorem cnt_split : ∀ (n m x : Nat), cnt (n + m) x = cnt n (x % 2 ^ n) + cnt m (x / 2 ^ n)
  | 0, m, x => by simp [cnt, Nat.mod_one]
  | n + 1, m, x => by
    rw [show n + 1 + m = (n + m) + 1 by omega]
    have hc : ∀ n x, cnt (n + 1) x = x % 2 + cnt n (x / 2) := fun _ _ => rfl
    rw [hc, hc, cnt_split n m (x / 2)]
    have e1 : x % 2 ^ (n + 1) % 2 = x % 2 := Nat.mod_mod_of_dvd _ ⟨2 ^ n, by rw [Nat.pow_succ, Nat.mul_comm]⟩
    have e2 : x % 2 ^ (n + 1) / 2 = x / 2 % 2 ^ n := by rw [Nat.pow_succ, Nat.mul_comm, Nat.mod_mul_right_div_self]
    have e3 : x / 2 / 2 ^ n = x / 2 ^ (n + 1) := by rw [Nat.div_div_eq_div_mul, Nat.pow_succ, Nat.mul_comm]
    rw [e1, e2, e3, Nat.add_assoc]
theorem cnt8 (n x : Nat) : cnt (8 + n) x = cnt 8 (x % 256) + cnt n (x / 256) := cnt_split 8 n x
theorem T3_at (n x : Nat) : T3 (n + 1) x = cnt 8 (x % 256) + 256 * T3 n (x / 256) := by
  have e : x = x % 256 + 256 * (x / 256) := by omega
  have := T3_step n (x % 256) (x / 256) (Nat.mod_lt _ (by decide))
  rw [← e] at this
  exact this
theorem T3_zero (x : Nat) : T3 0 x = 0 := by unfold T3 S3 mk; simp
theorem mk85 : mk 85 8 = 6148914691236517205 := by decide
theorem mk51 : mk 51 8 = 3689348814741910323 := by decide
theorem mk15 : mk 15 8 = 1085102592571150095 := by decide
theorem sm2 {a b : Nat} (h : a ≤ 8) (k : b ≤ 8) : a + b < 256 := by omega
theorem sm4 {a b c d : Nat} (h : a ≤ 8) (k : b ≤ 8) (i : c ≤ 8) (j : d ≤ 8) : a + b + (c + d) < 256 := by omega
theorem dv {t c q : Nat} (h : t = c + 256 * q) (hc : c < 256) : t / 256 = q := by omega
theorem ad {a b c d p q : Nat} (h : a = c + 256 * p) (k : b = d + 256 * q) : a + b = (c + d) + 256 * (p + q) := by omega
theorem bd {a c q s : Nat} {B : Nat} (hq : a = c + 256 * q) (h : a ≤ B) (hs : s ≤ q) : a + s ≤ 2 * B := by omega
theorem le_of {a c q : Nat} (hq : a = c + 256 * q) : q ≤ a := by omega
/-- The bytes' counts, added up by the top. -/
theorem fold_ok (c0 c1 c2 c3 c4 c5 c6 c7 t t1 t2 t3 t4 t5 t6 y z u : Nat) (h0 : c0 ≤ 8) (h1 : c1 ≤ 8) (h2 : c2 ≤ 8) (h3 : c3 ≤ 8) (h4 : c4 ≤ 8) (h5 : c5 ≤ 8) (h6 : c6 ≤ 8) (h7 : c7 ≤ 8)
    (ht : t = c0 + 256 * t1) (ht1 : t1 = c1 + 256 * t2) (ht2 : t2 = c2 + 256 * t3) (ht3 : t3 = c3 + 256 * t4) (ht4 : t4 = c4 + 256 * t5) (ht5 : t5 = c5 + 256 * t6) (ht6 : t6 = c6 + 256 * c7)
    (hb : t ≤ 1085102592571150095)
    (hy : y = (t + t / 256) % 18446744073709551616) (hz : z = (y + y / 65536) % 18446744073709551616) (hu : u = (z + z / 4294967296) % 18446744073709551616) :
    u < 9223372036854775808 ∧ u % 128 = c0 + c1 + c2 + c3 + c4 + c5 + c6 + c7 := by
  have s0 : c0 < 256 := Nat.lt_of_le_of_lt h0 (by decide)
  have s01 : c0 + c1 < 256 := sm2 h0 h1
  have s12 : c1 + c2 < 256 := sm2 h1 h2
  have y0 := ad ht ht1
  have y1 := ad ht1 ht2
  have y2 := ad ht2 ht3
  have y3 := ad ht3 ht4
  have y4 := ad ht4 ht5
  have y5 := ad ht5 ht6
  have y6 := ad ht6 (show c7 = c7 + 256 * 0 from rfl)
  have by_ := bd ht hb (Nat.le_refl t1)
  rw [dv ht s0, Nat.mod_eq_of_lt (Nat.lt_of_le_of_lt by_ (by decide))] at hy
  rw [← hy] at y0 by_
  rw [Nat.add_zero] at y6
  clear hy ht ht1 ht2 ht3 ht4 ht5 ht6 hb
  have z0 := ad y0 y2
  have z1 := ad y1 y3
  have z2 := ad y2 y4
  have z3 := ad y3 y5
  have z4 := ad y4 y6
  have l2 : t2 + t3 ≤ t1 + t2 := le_of y1
  have bz := bd y0 by_ l2
  have d2 : y / 65536 = t2 + t3 := by
    rw [show 65536 = 256 * 256 from rfl, ← Nat.div_div_eq_div_mul, dv y0 s01, dv y1 s12]
  rw [d2, Nat.mod_eq_of_lt (Nat.lt_of_le_of_lt bz (by decide))] at hz
  rw [← hz] at z0 bz
  clear hz d2 by_ y0 y1 y2 y3 y4 y5 y6 l2
  have k0 : c0 + c1 + (c2 + c3) < 256 := sm4 h0 h1 h2 h3
  have k1 : c1 + c2 + (c3 + c4) < 256 := sm4 h1 h2 h3 h4
  have k2 : c2 + c3 + (c4 + c5) < 256 := sm4 h2 h3 h4 h5
  have k3 : c3 + c4 + (c5 + c6) < 256 := sm4 h3 h4 h5 h6
  have d3 : z / 4294967296 = t4 + t5 + (t6 + c7) := by
    rw [show 4294967296 = 256 * 256 * 256 * 256 from rfl, ← Nat.div_div_eq_div_mul, ← Nat.div_div_eq_div_mul, ← Nat.div_div_eq_div_mul, dv z0 k0, dv z1 k1, dv z2 k2, dv z3 k3]
  have l4 : t4 + t5 + (t6 + c7) ≤ t1 + t2 + (t3 + t4) := Nat.le_trans (le_of z3) (Nat.le_trans (le_of z2) (le_of z1))
  have bu := bd z0 bz l4
  have u0 := ad z0 z4
  rw [d3, Nat.mod_eq_of_lt (Nat.lt_of_le_of_lt bu (by decide))] at hu
  rw [← hu] at u0 bu
  refine ⟨Nat.lt_of_le_of_lt bu (by decide), ?_⟩
  clear hu d3 l4 bu bz z0 z1 z2 z3 z4 k0 k1 k2 k3 s0 s01 s12
  generalize t1 + t2 + (t3 + t4) + (t5 + t6 + c7) = g at u0
  omega
theorem cnt_le8 (b : Nat) : cnt 8 b ≤ 8 := cnt_le 8 b
theorem S1_eq (x : Nat) (hx : x < 18446744073709551616) : S1 8 x < 18446744073709551616 := by
  have h1 : (x / 2) &&& mk 85 8 ≤ mk 85 8 := Nat.and_le_right
  have h2 : x &&& mk 85 8 ≤ mk 85 8 := Nat.and_le_right
  unfold S1
  rw [mk85] at *
  omega
theorem S2_lt (x : Nat) : S2 8 x ≤ 7378697629483820646 := by
  have h1 : (x / 4) &&& mk 51 8 ≤ mk 51 8 := Nat.and_le_right
  have h2 : x &&& mk 51 8 ≤ mk 51 8 := Nat.and_le_right
  unfold S2
  rw [mk51] at *
  omega
theorem T3_lt (x : Nat) : T3 8 x ≤ 1085102592571150095 := by
  have h1 : (S2 8 (S1 8 x) / 16 + S2 8 (S1 8 x)) &&& mk 15 8 ≤ mk 15 8 := Nat.and_le_right
  unfold T3 S3
  rw [mk15] at *
  omega
theorem i64_and127 (x : Nat) (h : x < 9223372036854775808) : Go.bits .and .i64 (x : Int) 127 = ((x % 128 : Nat) : Int) := by
  have := bits_mask .i64 63 (by decide) (fun n h0 h1 => by rw [IntKind.wrap_i64]; omega) 7 (by decide) (x : Int) (by omega) (by have : ((2 : Int) ^ 63) = 9223372036854775808 := rfl; omega)
  have e : ((2 : Int) ^ 7 - 1) = 127 := rfl
  rw [e] at this
  rw [this]
  have : ((2 : Int) ^ 7) = 128 := rfl
  omega
theorem cnt64 (x : Nat) : cnt 64 x = cnt 8 (x % 256) + cnt 8 (x / 256 % 256) + cnt 8 (x / 256 / 256 % 256) + cnt 8 (x / 256 / 256 / 256 % 256) + cnt 8 (x / 256 / 256 / 256 / 256 % 256) + cnt 8 (x / 256 / 256 / 256 / 256 / 256 % 256) + cnt 8 (x / 256 / 256 / 256 / 256 / 256 / 256 % 256) + cnt 8 (x / 256 / 256 / 256 / 256 / 256 / 256 / 256 % 256) := by
  have a0 := cnt8 56 x
  have a1 := cnt8 48 (x / 256)
  have a2 := cnt8 40 (x / 256 / 256)
  have a3 := cnt8 32 (x / 256 / 256 / 256)
  have a4 := cnt8 24 (x / 256 / 256 / 256 / 256)
  have a5 := cnt8 16 (x / 256 / 256 / 256 / 256 / 256)
  have a6 := cnt8 8 (x / 256 / 256 / 256 / 256 / 256 / 256)
  have a7 := cnt8 0 (x / 256 / 256 / 256 / 256 / 256 / 256 / 256)
  have z : ∀ y, cnt 0 y = 0 := fun _ => rfl
  rw [z] at a7
  simp only [Nat.reduceAdd] at a0 a1 a2 a3 a4 a5 a6 a7
  rw [a0, a1, a2, a3, a4, a5, a6, a7]
  simp only [Nat.add_zero, Nat.add_assoc]
/-- What OnesCount64 answers. -/
theorem ones_f (x : Nat) (hx : x < 18446744073709551616) : bits_OnesCount64.f (x : Int) = some ((L x).length : Int) := by
  have a1 : Go.bits .and .u64 ((x : Int) / 2) 6148914691236517205 = (((x / 2) &&& mk 85 8 : Nat) : Int) := by
    rw [mk85]; exact bits_and_u64_nat (x / 2) 6148914691236517205 (by omega) (by omega)
  have a2 : Go.bits .and .u64 (x : Int) 6148914691236517205 = ((x &&& mk 85 8 : Nat) : Int) := by
    rw [mk85]; exact bits_and_u64_nat x 6148914691236517205 (by omega) (by omega)
  have a3 : IntKind.u64.wrap ((((x / 2) &&& mk 85 8 : Nat) : Int) + ((x &&& mk 85 8 : Nat) : Int)) = ((S1 8 x : Nat) : Int) := by
    have := S1_eq x hx
    unfold S1 at *
    rw [IntKind.wrap_u64]
    omega
  unfold bits_OnesCount64.f
  simp only [a1, a2, a3]
  clear a1 a2 a3
  have hS := S1_eq x hx
  have hT := T3_lt x
  obtain ⟨t1, t2, t3, t4, t5, t6, hcnt, q1, q2, q3, q4, q5, q6⟩ : ∃ t1 t2 t3 t4 t5 t6, T3 8 x = cnt 8 (x % 256) + 256 * t1 ∧ t1 = cnt 8 (x / 256 % 256) + 256 * t2 ∧ t2 = cnt 8 (x / 256 / 256 % 256) + 256 * t3 ∧ t3 = cnt 8 (x / 256 / 256 / 256 % 256) + 256 * t4 ∧ t4 = cnt 8 (x / 256 / 256 / 256 / 256 % 256) + 256 * t5 ∧ t5 = cnt 8 (x / 256 / 256 / 256 / 256 / 256 % 256) + 256 * t6 ∧ t6 = cnt 8 (x / 256 / 256 / 256 / 256 / 256 / 256 % 256) + 256 * cnt 8 (x / 256 / 256 / 256 / 256 / 256 / 256 / 256 % 256) :=
    ⟨_, _, _, _, _, _, T3_at 7 x, T3_at 6 _, T3_at 5 _, T3_at 4 _, T3_at 3 _, T3_at 2 _, by rw [T3_at 1, T3_at 0, T3_zero, Nat.mul_zero, Nat.add_zero]⟩
  have hlen : (L x).length = cnt 8 (x % 256) + cnt 8 (x / 256 % 256) + cnt 8 (x / 256 / 256 % 256) + cnt 8 (x / 256 / 256 / 256 % 256) + cnt 8 (x / 256 / 256 / 256 / 256 % 256) + cnt 8 (x / 256 / 256 / 256 / 256 / 256 % 256) + cnt 8 (x / 256 / 256 / 256 / 256 / 256 / 256 % 256) + cnt 8 (x / 256 / 256 / 256 / 256 / 256 / 256 / 256 % 256) := by
    unfold L
    rw [lst_length, cnt64]
  rw [hlen]
  unfold T3 at hT hcnt
  generalize S1 8 x = s at hS hT hcnt ⊢
  have b1 : Go.bits .and .u64 ((s : Int) / 4) 3689348814741910323 = (((s / 4) &&& mk 51 8 : Nat) : Int) := by
    rw [mk51]; exact bits_and_u64_nat (s / 4) 3689348814741910323 (by omega) (by omega)
  have b2 : Go.bits .and .u64 (s : Int) 3689348814741910323 = ((s &&& mk 51 8 : Nat) : Int) := by
    rw [mk51]; exact bits_and_u64_nat s 3689348814741910323 (by omega) (by omega)
  have b3 : IntKind.u64.wrap ((((s / 4) &&& mk 51 8 : Nat) : Int) + ((s &&& mk 51 8 : Nat) : Int)) = ((S2 8 s : Nat) : Int) := by
    have := S2_lt s
    unfold S2 at *
    rw [IntKind.wrap_u64]
    omega
  simp only [b1, b2, b3]
  have hS2 := S2_lt s
  clear b1 b2 b3
  generalize S2 8 s = q at hS2 hT hcnt ⊢
  have d1 : IntKind.u64.wrap ((q : Int) / 16 + (q : Int)) = ((q / 16 + q : Nat) : Int) := by rw [IntKind.wrap_u64]; omega
  have d2 : Go.bits .and .u64 ((q / 16 + q : Nat) : Int) 1085102592571150095 = ((S3 8 q : Nat) : Int) := by
    unfold S3
    rw [mk15]; exact bits_and_u64_nat (q / 16 + q) 1085102592571150095 (by omega) (by omega)
  simp only [d1, d2]
  generalize S3 8 q = t at hT hcnt ⊢
  clear d1 d2 hS2 hS
  have f1 : IntKind.u64.wrap ((t : Int) + (t : Int) / 256) = (((t + t / 256) % 18446744073709551616 : Nat) : Int) := by rw [IntKind.wrap_u64]; omega
  simp only [f1]
  generalize hy : (t + t / 256) % 18446744073709551616 = y
  have f2 : IntKind.u64.wrap ((y : Int) + (y : Int) / 65536) = (((y + y / 65536) % 18446744073709551616 : Nat) : Int) := by rw [IntKind.wrap_u64]; omega
  simp only [f2]
  generalize hz : (y + y / 65536) % 18446744073709551616 = z
  have f3 : IntKind.u64.wrap ((z : Int) + (z : Int) / 4294967296) = (((z + z / 4294967296) % 18446744073709551616 : Nat) : Int) := by rw [IntKind.wrap_u64]; omega
  simp only [f3]
  generalize hu : (z + z / 4294967296) % 18446744073709551616 = u
  obtain ⟨hub, key⟩ := fold_ok _ _ _ _ _ _ _ _ t t1 t2 t3 t4 t5 t6 y z u (cnt_le8 _) (cnt_le8 _) (cnt_le8 _) (cnt_le8 _) (cnt_le8 _) (cnt_le8 _) (cnt_le8 _) (cnt_le8 _) hcnt q1 q2 q3 q4 q5 q6 hT hy.symm hz.symm hu.symm
  rw [w64 (by omega), i64_and127 u hub, key]
end Go.Proofs.YtegifiagobienaaDoor.Plain
