/- The plain lemmas of these laws, joined into one text: PlainAwake13, PlainSame, PlainBig, PlainBigMul, PlainWideMul, PlainWide, PlainWideW, PlainSign, PlainClamp, PlainBits, PlainWideShift, PlainDecode, PlainRefDecode. -/
import Derived.Test.YtdpekjffjobabaaPAllx
import Derived.Test.YtdpekjffjobabaaBase
namespace Go.Proofs.Ytdpekjffjobabaa.Plain
open Go.RowKit Go.Proofs.Ytdpekjffjobabaa.PAll Go.Proofs.Ytdpekjffjobabaa.Opn Go.Proofs.Ytdpekjffjobabaa.Base Go.Proofs.YtdpekjffjobabaaW.PrintWords Go.Proofs.YtdpekjffjobabaaW.PrintLast Go.Proofs.YtdpekjffjobabaaW.PrintMore
set_option linter.unusedVariables false
set_option linter.unusedSimpArgs false
set_option maxRecDepth 100000 in
theorem awake_f : Ev (fun k => offertorylaw13_awake.f k) true := Ev.of (k := 40) (fun k => offertorylaw13_awake.mono k) (by decide +kernel)
/-- The rest of two lists is one. -/
theorem drop_eq {a b : List Int} {i : Nat} (ha : i < a.length) (hb : i < b.length) : a.drop i = b.drop i ↔ a.getD i 0 = b.getD i 0 ∧ a.drop (i + 1) = b.drop (i + 1) := by
  rw [List.drop_eq_getElem_cons ha, List.drop_eq_getElem_cons hb]
  rw [List.cons.injEq]
  simp only [List.getD, List.getElem?_eq_getElem ha, List.getElem?_eq_getElem hb, Option.getD_some]
theorem eqInts_l0 (a b : List Int) (hl : a.length = b.length) (hm : a.length ≤ 9223372036854775806) : ∀ d i : Nat, i + d = a.length → Ev (fun k => slices_Equal_int_int.l0 k a b (a.length : Int) (i : Int)) (decide (a.drop i = b.drop i)) := by
  intro d
  induction d with
  | zero =>
    intro i hi
    refine Ev.succ ?_
    simp only [slices_Equal_int_int.l0]
    refine Ev.neg (by omega) (Ev.some_ ?_)
    rw [List.drop_eq_nil_of_le (by omega), List.drop_eq_nil_of_le (by omega)]
    rfl
  | succ d ih =>
    intro i hi
    refine Ev.succ ?_
    simp only [slices_Equal_int_int.l0, rd_nat]
    refine Ev.pos (by omega) (Ev.pos (by omega) (Ev.pos (by omega) (Ev.pos (by omega) ?_)))
    have he := drop_eq (a := a) (b := b) (i := i) (by omega) (by omega)
    refine Ev.if_ (fun h => ?_) (fun h => Ev.some_ ?_)
    · rw [w64 (by omega)]
      have := ih (i + 1) (by omega)
      rw [show decide (a.drop i = b.drop i) = decide (a.drop (i + 1) = b.drop (i + 1)) from decide_eq_decide.2 (by rw [he]; exact ⟨fun x => x.2, fun x => ⟨h, x⟩⟩)]
      exact this
    · rw [decide_eq_false]
      rw [he]
      exact fun x => h x.1
theorem eqInts_f (a b : List Int) (hm : a.length ≤ 9223372036854775806) : Ev (fun k => slices_Equal_int_int.f k a b) (decide (a = b)) := by
  unfold slices_Equal_int_int.f
  refine Ev.if_ (fun h => ?_) (fun h => Ev.some_ ?_)
  · have := eqInts_l0 a b (by omega) hm a.length 0 (by omega)
    rw [List.drop_zero, List.drop_zero] at this
    exact this
  · rw [decide_eq_false]
    rintro rfl
    exact h rfl
/-- The stats beside the bins are one. -/
def restB (c1 s1 t1 q1 r1 : Int) (b1 : Bool) (c2 s2 t2 q2 r2 : Int) (b2 : Bool) : Bool := decide (c1 = c2) && ((s1 == s2 && t1 == t2) && ((q1 == q2 && r1 == r2) && (b1 == b2)))
def sameB (l1 : List Int) (c1 s1 t1 q1 r1 : Int) (b1 : Bool) (l2 : List Int) (c2 s2 t2 q2 r2 : Int) (b2 : Bool) : Bool := decide (l1 = l2) && restB c1 s1 t1 q1 r1 b1 c2 s2 t2 q2 r2 b2
theorem rest_f (c1 s1 t1 q1 r1 : Int) (b1 : Bool) (c2 s2 t2 q2 r2 : Int) (b2 : Bool) :
    (if c1 = c2 then (if (s1 == s2 && (t1 == t2)) = true then (if (q1 == q2 && (r1 == r2)) = true then (some (b1 == b2)) else (some false)) else (some false)) else (some false)) = some (restB c1 s1 t1 q1 r1 b1 c2 s2 t2 q2 r2 b2) := by
  unfold restB
  by_cases h : c1 = c2
  · rw [if_pos h, decide_eq_true h, Bool.true_and]
    cases (s1 == s2 && t1 == t2)
    · rfl
    · cases (q1 == q2 && r1 == r2) <;> rfl
  · rw [if_neg h, decide_eq_false h]; rfl
theorem same_f (l1 : List Int) (c1 s1 t1 q1 r1 : Int) (b1 : Bool) (l2 : List Int) (c2 s2 t2 q2 r2 : Int) (b2 : Bool) (hm : l1.length ≤ 9223372036854775806) :
    Ev (fun k => stats_Same.f k l1 c1 s1 t1 q1 r1 b1 l2 c2 s2 t2 q2 r2 b2) (sameB l1 c1 s1 t1 q1 r1 b1 l2 c2 s2 t2 q2 r2 b2) := by
  unfold stats_Same.f
  refine Ev.bind (eqInts_f l1 l2 hm) ?_
  simp only [rest_f, sameB]
  refine Ev.if_ (fun h => Ev.some_ ?_) (fun h => Ev.some_ ?_)
  · rw [h]; rfl
  · rw [Bool.eq_false_iff.2 h]; rfl
theorem refSame_l0 (l1 : List Int) (c1 s1 t1 q1 r1 : Int) (b1 : Bool) (l2 : List Int) (c2 s2 t2 q2 r2 : Int) (b2 : Bool) (hl : l1.length = l2.length) (hm : l1.length ≤ 9223372036854775806) : ∀ d i : Nat, i + d = l1.length →
    Ev (fun k => offertoryref09_Same.l0 k (i : Int) l1 c1 s1 t1 q1 r1 b1 l2 c2 s2 t2 q2 r2 b2) (decide (l1.drop i = l2.drop i) && restB c1 s1 t1 q1 r1 b1 c2 s2 t2 q2 r2 b2) := by
  intro d
  induction d with
  | zero =>
    intro i hi
    refine Ev.succ ?_
    simp only [offertoryref09_Same.l0]
    refine Ev.neg (by omega) ?_
    rw [List.drop_eq_nil_of_le (by omega), List.drop_eq_nil_of_le (by omega)]
    simp only [rest_f]
    exact Ev.some_ rfl
  | succ d ih =>
    intro i hi
    refine Ev.succ ?_
    simp only [offertoryref09_Same.l0, rd_nat]
    refine Ev.pos (by omega) (Ev.pos (by omega) (Ev.pos (by omega) ?_))
    have he := drop_eq (a := l1) (b := l2) (i := i) (by omega) (by omega)
    refine Ev.if_ (fun h => ?_) (fun h => Ev.some_ ?_)
    · rw [w64 (by omega)]
      have := ih (i + 1) (by omega)
      rw [show decide (l1.drop i = l2.drop i) = decide (l1.drop (i + 1) = l2.drop (i + 1)) from decide_eq_decide.2 (by rw [he]; exact ⟨fun x => x.2, fun x => ⟨h, x⟩⟩)]
      exact this
    · rw [decide_eq_false, Bool.false_and]
      rw [he]
      exact fun x => h x.1
theorem refSame_f (l1 : List Int) (c1 s1 t1 q1 r1 : Int) (b1 : Bool) (l2 : List Int) (c2 s2 t2 q2 r2 : Int) (b2 : Bool) (hm : l1.length ≤ 9223372036854775806) :
    Ev (fun k => offertoryref09_Same.f k l1 c1 s1 t1 q1 r1 b1 l2 c2 s2 t2 q2 r2 b2) (sameB l1 c1 s1 t1 q1 r1 b1 l2 c2 s2 t2 q2 r2 b2) := by
  unfold offertoryref09_Same.f
  refine Ev.if_ (fun h => ?_) (fun h => Ev.some_ ?_)
  · have := refSame_l0 l1 c1 s1 t1 q1 r1 b1 l2 c2 s2 t2 q2 r2 b2 (by omega) hm l1.length 0 (by omega)
    rw [List.drop_zero, List.drop_zero] at this
    exact this
  · unfold sameB
    rw [decide_eq_false, Bool.false_and]
    rintro rfl
    exact h rfl
theorem sameB_self (l : List Int) (c s t q r : Int) (b : Bool) : sameB l c s t q r b l c s t q r b = true := by simp [sameB, restB]
/-- The number of a wide one; a number's wide one. -/
def wv (hi lo : Int) : Int := lo + hi * 18446744073709551616
def wd (v : Int) : Int × Int := (v / 18446744073709551616 % 18446744073709551616, v % 18446744073709551616)
def W64 (x : Int) : Prop := 0 ≤ x ∧ x ≤ 18446744073709551615
theorem wd_in (v : Int) : W64 (wd v).1 ∧ W64 (wd v).2 := by simp only [wd, W64]; omega
theorem wv_wd (v : Int) : wv (wd v).1 (wd v).2 = v % 340282366920938463463374607431768211456 := by simp only [wv, wd]; omega
theorem wd_wv {hi lo : Int} (h : W64 hi) (l : W64 lo) : wd (wv hi lo) = (hi, lo) := by
  unfold W64 at h l
  simp only [wv, wd, Prod.mk.injEq]; omega
theorem wd_mod {v u : Int} (h : v % 340282366920938463463374607431768211456 = u % 340282366920938463463374607431768211456) : wd v = wd u := by
  simp only [wd, Prod.mk.injEq]; omega
theorem wd_emod (v : Int) : wd (v % 340282366920938463463374607431768211456) = wd v := wd_mod (by omega)

theorem bD_in (v : Int) (i : Nat) : 0 ≤ bigD v i ∧ bigD v i ≤ 65535 := by unfold bigD; omega
theorem dig_digs (v : Int) : Dig (bigD v 0) (bigD v 1) (bigD v 2) (bigD v 3) (bigD v 4) (bigD v 5) (bigD v 6) (bigD v 7) :=
  ⟨bD_in v 0, bD_in v 1, bD_in v 2, bD_in v 3, bD_in v 4, bD_in v 5, bD_in v 6, bD_in v 7⟩
theorem bV_digs (v : Int) : bigV (bigD v 0) (bigD v 1) (bigD v 2) (bigD v 3) (bigD v 4) (bigD v 5) (bigD v 6) (bigD v 7) = v % 340282366920938463463374607431768211456 := by
  simp only [bigV, bigD]
  omega
theorem digs_eq {v w : Int} (h : v % 340282366920938463463374607431768211456 = w % 340282366920938463463374607431768211456) : digs v = digs w := by
  have key : ∀ x : Int, digs x = digs (x % 340282366920938463463374607431768211456) := by
    intro x
    simp only [digs, bigD, Prod.mk.injEq]
    omega
  rw [key v, key w, h]
theorem of_f {hi lo : Int} (h : W64 hi) (l : W64 lo) : offertoryref09_Of.f hi lo = some (digs (wv hi lo)) := by
  unfold offertoryref09_Of.f
  rw [if_pos ⟨h, l⟩]
  rfl
theorem bigAdd_f (u v : Int) : offertoryref09_Add.f (bigD u 0) (bigD u 1) (bigD u 2) (bigD u 3) (bigD u 4) (bigD u 5) (bigD u 6) (bigD u 7) (bigD v 0) (bigD v 1) (bigD v 2) (bigD v 3) (bigD v 4) (bigD v 5) (bigD v 6) (bigD v 7) = some (digs (u + v)) := by
  unfold offertoryref09_Add.f
  rw [if_pos ⟨dig_digs u, dig_digs v⟩, bV_digs, bV_digs]
  congr 1
  exact digs_eq (by omega)
theorem mod_mul (u v m : Int) : (u % m * (v % m)) % m = (u * v) % m := (Int.mul_emod u v m).symm
theorem bigMul_f (u v : Int) : offertoryref09_Mul.f (bigD u 0) (bigD u 1) (bigD u 2) (bigD u 3) (bigD u 4) (bigD u 5) (bigD u 6) (bigD u 7) (bigD v 0) (bigD v 1) (bigD v 2) (bigD v 3) (bigD v 4) (bigD v 5) (bigD v 6) (bigD v 7) = some (digs (u * v)) := by
  unfold offertoryref09_Mul.f
  rw [if_pos ⟨dig_digs u, dig_digs v⟩, bV_digs, bV_digs]
  congr 1
  exact digs_eq (mod_mul u v _)
theorem and_mask32 {x : Int} (h : W64 x) : Go.bits .and .u64 x 4294967295 = x % 4294967296 := by
  obtain ⟨h0, h1⟩ := h
  obtain ⟨n, rfl⟩ := Int.eq_ofNat_of_zero_le h0
  have := bits_and_u64_nat n 4294967295 (by omega) (by decide)
  rw [show ((4294967295 : Nat) : Int) = 4294967295 from rfl] at this
  rw [this, Nat.and_two_pow_sub_one_eq_mod n 32]
  rfl
theorem prod32 {x y : Int} (h0 : 0 ≤ x) (h1 : x ≤ 4294967295) (h2 : 0 ≤ y) (h3 : y ≤ 4294967295) : 0 ≤ x * y ∧ x * y ≤ 18446744065119617025 := by
  refine ⟨Int.mul_nonneg h0 h2, ?_⟩
  have := Int.mul_le_mul h1 h3 h2 (by omega : (0 : Int) ≤ 4294967295)
  omega
theorem mul64_f {a b : Int} (ha : W64 a) (hb : W64 b) : bits_Mul64.f a b = some (a * b / 18446744073709551616, a * b % 18446744073709551616) := by
  unfold bits_Mul64.f
  rw [and_mask32 ha, and_mask32 hb]
  unfold W64 at ha hb
  have p11 := prod32 (x := a / 4294967296) (y := b / 4294967296) (by omega) (by omega) (by omega) (by omega)
  have p10 := prod32 (x := a / 4294967296) (y := b % 4294967296) (by omega) (by omega) (by omega) (by omega)
  have p01 := prod32 (x := a % 4294967296) (y := b / 4294967296) (by omega) (by omega) (by omega) (by omega)
  have p00 := prod32 (x := a % 4294967296) (y := b % 4294967296) (by omega) (by omega) (by omega) (by omega)
  have hab : a * b = a / 4294967296 * (b / 4294967296) * 18446744073709551616 + (a / 4294967296 * (b % 4294967296) + a % 4294967296 * (b / 4294967296)) * 4294967296 + a % 4294967296 * (b % 4294967296) := by
    have e1 : a = a / 4294967296 * 4294967296 + a % 4294967296 := by omega
    have e2 : b = b / 4294967296 * 4294967296 + b % 4294967296 := by omega
    generalize a / 4294967296 = x1 at *
    generalize a % 4294967296 = x0 at *
    generalize b / 4294967296 = y1 at *
    generalize b % 4294967296 = y0 at *
    subst e1 e2
    simp only [Int.add_mul, Int.mul_add]
    have f1 : x1 * 4294967296 * (y1 * 4294967296) = x1 * y1 * 18446744073709551616 := by
      rw [Int.mul_assoc, Int.mul_left_comm 4294967296 y1, ← Int.mul_assoc]
      rfl
    have f2 : x1 * 4294967296 * y0 = x1 * y0 * 4294967296 := by rw [Int.mul_assoc, Int.mul_comm 4294967296 y0, ← Int.mul_assoc]
    have f3 : x0 * (y1 * 4294967296) = x0 * y1 * 4294967296 := by rw [← Int.mul_assoc]
    rw [f1, f2, f3]
    omega
  rw [hab]
  generalize a / 4294967296 * (b / 4294967296) = q11 at *
  generalize a / 4294967296 * (b % 4294967296) = q10 at *
  generalize a % 4294967296 * (b / 4294967296) = q01 at *
  generalize a % 4294967296 * (b % 4294967296) = q00 at *
  clear hab ha hb
  rw [wu64 (x := q00) (by omega), wu64 (x := q10) (by omega), wu64 (x := q10 + q00 / 4294967296) (by omega), wu64 (x := q11) (by omega), wu64 (x := q01) (by omega)]
  rw [and_mask32 (by unfold W64; omega)]
  obtain ⟨u, v, hu, hv, e0, hv0, hv1⟩ : ∃ u v, u = q00 / 4294967296 ∧ v = q00 % 4294967296 ∧ q00 = u * 4294967296 + v ∧ 0 ≤ v ∧ v ≤ 4294967295 := ⟨_, _, rfl, rfl, by omega, by omega, by omega⟩
  rw [← hu]
  have bu : 0 ≤ u ∧ u ≤ 4294967294 := by omega
  clear hu hv
  subst e0
  obtain ⟨t1, t0, ht1, ht0, et, b0, b1⟩ : ∃ t1 t0, t1 = (q10 + u) / 4294967296 ∧ t0 = (q10 + u) % 4294967296 ∧ q10 + u = t1 * 4294967296 + t0 ∧ 0 ≤ t0 ∧ t0 ≤ 4294967295 := ⟨_, _, rfl, rfl, by omega, by omega, by omega⟩
  rw [← ht1, ← ht0]
  have bt : 0 ≤ t1 ∧ t1 ≤ 4294967295 := by omega
  clear ht1 ht0
  rw [wu64 (x := t0 + q01) (by omega), wu64 (x := q11 + t1) (by omega)]
  obtain ⟨s1, s0, hs1, hs0, es, c0, c1⟩ : ∃ s1 s0, s1 = (t0 + q01) / 4294967296 ∧ s0 = (t0 + q01) % 4294967296 ∧ t0 + q01 = s1 * 4294967296 + s0 ∧ 0 ≤ s0 ∧ s0 ≤ 4294967295 := ⟨_, _, rfl, rfl, by omega, by omega, by omega⟩
  rw [← hs1]
  have bs : 0 ≤ s1 ∧ s1 ≤ 4294967295 := by omega
  clear hs1 hs0
  rw [wu64 (x := q11 + t1 + s1) (by omega), IntKind.wrap_u64]
  have e5 : q11 * 18446744073709551616 + (q10 + q01) * 4294967296 + (u * 4294967296 + v) = (q11 + t1 + s1) * 18446744073709551616 + (s0 * 4294967296 + v) := by omega
  rw [e5]
  refine congrArg some (Prod.ext ?_ rfl)
  show q11 + t1 + s1 = ((q11 + t1 + s1) * 18446744073709551616 + (s0 * 4294967296 + v)) / 18446744073709551616
  generalize q11 + t1 + s1 = z
  omega
theorem wMul_f {a b : Int} (ha : W64 a) (hb : W64 b) : wide_Mul.f a b = some (wd (a * b)) := by
  unfold wide_Mul.f
  rw [mul64_f ha hb]
  simp only [Option.bind_some, wd]
  have h := Int.mul_nonneg ha.1 hb.1
  have h2 := Int.mul_le_mul ha.2 hb.2 hb.1 (by omega : (0 : Int) ≤ 18446744073709551615)
  refine congrArg some (Prod.ext ?_ ?_)
  · show a * b / 18446744073709551616 = a * b / 18446744073709551616 % 18446744073709551616
    generalize a * b = c at *
    omega
  · rfl
theorem wAdd_f {h1 l1 h2 l2 : Int} (a : W64 h1) (b : W64 l1) (c : W64 h2) (d : W64 l2) : wide_Add.f h1 l1 h2 l2 = some (wd (wv h1 l1 + wv h2 l2)) := by
  unfold W64 at a b c d
  unfold wide_Add.f
  rw [if_pos (by omega)]
  simp only [wd, wv, Option.some.injEq, Prod.mk.injEq]
  omega
theorem wSub_f {h1 l1 h2 l2 : Int} (a : W64 h1) (b : W64 l1) (c : W64 h2) (d : W64 l2) : wide_Sub.f h1 l1 h2 l2 = some (wd (wv h1 l1 - wv h2 l2)) := by
  unfold W64 at a b c d
  unfold wide_Sub.f borrow
  rw [if_pos (by omega)]
  simp only [wd, wv, Option.some.injEq, Prod.mk.injEq]
  split <;> omega
theorem wNeg_f {h1 l1 : Int} (a : W64 h1) (b : W64 l1) : wide_Neg.f h1 l1 = some (wd (- wv h1 l1)) := by
  unfold wide_Neg.f
  rw [wSub_f (by unfold W64; omega) (by unfold W64; omega) a b]
  simp only [Option.bind_some]
  rw [show wv 0 0 - wv h1 l1 = - wv h1 l1 by unfold wv; omega]
theorem add_w (u v : Int) : wide_Add.f (wd u).1 (wd u).2 (wd v).1 (wd v).2 = some (wd (u + v)) := by
  rw [wAdd_f (wd_in u).1 (wd_in u).2 (wd_in v).1 (wd_in v).2, wv_wd, wv_wd]
  congr 1
  exact wd_mod (by omega)
theorem neg_w (u : Int) : wide_Neg.f (wd u).1 (wd u).2 = some (wd (-u)) := by
  rw [wNeg_f (wd_in u).1 (wd_in u).2, wv_wd]
  congr 1
  exact wd_mod (by omega)
theorem of_w {x : Int} (h : -9223372036854775808 ≤ x ∧ x ≤ 9223372036854775807) : stats_of.f x = some (wd x) := by
  unfold stats_of.f
  rw [IntKind.wrap_u64]
  split
  · refine congrArg some (Prod.ext ?_ rfl)
    show (18446744073709551615 : Int) = x / 18446744073709551616 % 18446744073709551616
    omega
  · refine congrArg some (Prod.ext ?_ rfl)
    show (0 : Int) = x / 18446744073709551616 % 18446744073709551616
    omega
theorem product_w (u v : Int) : stats_product.f (wd u).1 (wd u).2 (wd v).1 (wd v).2 = some (wd (u * v)) := by
  unfold stats_product.f
  rw [wMul_f (wd_in u).2 (wd_in v).2]
  simp only [Option.bind_some]
  have e : wd (u * v) = wd (wv (wd u).1 (wd u).2 * wv (wd v).1 (wd v).2) := by
    rw [wv_wd, wv_wd]
    exact wd_mod (mod_mul u v _).symm
  rw [e]
  generalize (wd u).1 = a1
  generalize (wd u).2 = a0
  generalize (wd v).1 = b1
  generalize (wd v).2 = b0
  have hx : wv a1 a0 * wv b1 b0 = a0 * b0 + (a1 * b0 + a0 * b1) * 18446744073709551616 + a1 * b1 * 340282366920938463463374607431768211456 := by
    unfold wv
    simp only [Int.add_mul, Int.mul_add]
    have f1 : a1 * 18446744073709551616 * (b1 * 18446744073709551616) = a1 * b1 * 340282366920938463463374607431768211456 := by
      rw [Int.mul_assoc, Int.mul_left_comm 18446744073709551616 b1, ← Int.mul_assoc]
      rfl
    have f2 : a1 * 18446744073709551616 * b0 = a1 * b0 * 18446744073709551616 := by rw [Int.mul_assoc, Int.mul_comm 18446744073709551616 b0, ← Int.mul_assoc]
    have f3 : a0 * (b1 * 18446744073709551616) = a0 * b1 * 18446744073709551616 := by rw [← Int.mul_assoc]
    rw [f1, f2, f3]
    omega
  rw [hx, IntKind.wrap_u64, IntKind.wrap_u64, IntKind.wrap_u64, IntKind.wrap_u64]
  generalize a0 * b0 = p
  generalize a1 * b0 = q
  generalize a0 * b1 = r
  generalize a1 * b1 = s
  simp only [wd, Option.some.injEq, Prod.mk.injEq]
  omega
/-- A number by 2^128 that counts as below 0. -/
def negB (u : Int) : Bool := decide (170141183460469231731687303715884105728 ≤ u % 340282366920938463463374607431768211456)
theorem and_top {x : Int} (h : W64 x) : (Go.bits .and .u64 x 9223372036854775808 = 0) ↔ x < 9223372036854775808 := by
  obtain ⟨h0, h1⟩ := h
  obtain ⟨n, rfl⟩ := Int.eq_ofNat_of_zero_le h0
  have e := bits_and_u64_nat n 9223372036854775808 (by omega) (by decide)
  rw [show ((9223372036854775808 : Nat) : Int) = 9223372036854775808 from rfl] at e
  have d1 : (n &&& 9223372036854775808) / 9223372036854775808 = n / 9223372036854775808 % 2 := by
    have := Nat.and_div_two_pow (a := n) (b := 2 ^ 63) (n := 63)
    rw [show (2 : Nat) ^ 63 = 9223372036854775808 from rfl, show 9223372036854775808 / 9223372036854775808 = 1 from rfl, Nat.and_one_is_mod] at this
    exact this
  have d2 : (n &&& 9223372036854775808) % 9223372036854775808 = 0 := by
    have := Nat.and_mod_two_pow (a := n) (b := 2 ^ 63) (n := 63)
    rw [show (2 : Nat) ^ 63 = 9223372036854775808 from rfl, show 9223372036854775808 % 9223372036854775808 = 0 from rfl, Nat.and_zero] at this
    exact this
  rw [e]
  generalize n &&& 9223372036854775808 = m at *
  constructor
  · intro hm; omega
  · intro hm; omega
theorem signed_w (u : Int) : stats_signed.f (wd u).1 (wd u).2 = some (if negB u = true then ((wd (-u)).1, (wd (-u)).2, true) else ((wd u).1, (wd u).2, false)) := by
  unfold stats_signed.f
  have ht := and_top (wd_in u).1
  have hn : negB u = true ↔ ¬ (wd u).1 < 9223372036854775808 := by
    unfold negB
    rw [decide_eq_true_eq]
    simp only [wd]
    omega
  by_cases h : (wd u).1 < 9223372036854775808
  · rw [if_pos (ht.2 h), if_neg (by rw [hn]; exact fun x => x h)]
  · rw [if_neg (fun x => h (ht.1 x)), neg_w, if_pos (hn.2 h)]
    rfl
/-- A sum without its sign. -/
def resS (u : Int) : Int × Int × Bool := if negB u = true then ((wd (-u)).1, (wd (-u)).2, true) else ((wd u).1, (wd u).2, false)
theorem signed_r (u : Int) : stats_signed.f (wd u).1 (wd u).2 = some (resS u) := signed_w u
/-- A list rises. -/
def risesB : List Int → Bool
  | a :: b :: l => decide (a < b) && risesB (b :: l)
  | _ => true
theorem risesB_iff : ∀ l : List Int, risesB l = true ↔ ∀ j, 1 ≤ j → j < l.length → l.getD (j - 1) 0 < l.getD j 0
  | [] => by simp [risesB]
  | [a] => by simp [risesB]; intro j h1 h2; omega
  | a :: b :: l => by
    simp only [risesB, Bool.and_eq_true, decide_eq_true_eq]
    rw [risesB_iff (b :: l)]
    constructor
    · rintro ⟨h0, h⟩ j h1 h2
      match j, h1 with
      | 1, _ => simpa using h0
      | j + 2, _ =>
        have := h (j + 1) (by omega) (by simpa using h2)
        simpa using this
    · intro h
      refine ⟨by simpa using h 1 (by omega) (by simp), fun j h1 h2 => ?_⟩
      match j, h1 with
      | j + 1, _ =>
        have := h (j + 2) (by omega) (by simpa using h2)
        simpa using this

def boundsB (lo hi : Int) : Bool := decide (-1099511627776 ≤ lo ∧ hi ≤ 1099511627776 ∧ lo ≤ hi ∧ hi - lo < 1099511627776)
/-- What a plan's check answers. -/
def soundE (lo hi most : Int) (es : List Int) : Int :=
  if boundsB lo hi = true then (if most < 1 ∨ most > 65536 then 9 else if risesB es = true ∧ es.length ≤ 64 then 0 else 10) else 4

theorem sound0 {lo hi most : Int} {es : List Int} (h : soundE lo hi most es = 0) : -1099511627776 ≤ lo ∧ hi ≤ 1099511627776 ∧ lo ≤ hi ∧ hi - lo < 1099511627776 ∧ 1 ≤ most ∧ most ≤ 65536 ∧ risesB es = true ∧ es.length ≤ 64 := by
  unfold soundE at h
  split at h
  · rename_i hb
    split at h
    · simp at h
    · split at h
      · rename_i h1 h2
        have := of_decide_eq_true hb
        obtain ⟨h3, h4⟩ := h2
        exact ⟨by omega, by omega, by omega, by omega, by omega, by omega, h3, h4⟩
      · simp at h
  · simp at h

theorem bounds_f (lo hi most : Int) (es : List Int) (h1 : -9223372036854775808 ≤ lo ∧ lo ≤ 9223372036854775807) (h2 : -9223372036854775808 ≤ hi ∧ hi ≤ 9223372036854775807) : clamp_plan_bounds.f lo hi most es = some (boundsB lo hi) := by
  unfold clamp_plan_bounds.f boundsB
  by_cases a : lo ≥ -1099511627776
  · by_cases b : hi ≤ 1099511627776
    · by_cases c : lo ≤ hi
      · rw [if_pos a, if_pos b, if_pos c, w64 (by omega)]
        simp [a, b, c]
      · rw [if_pos a, if_pos b, if_neg c]
        simp [c]
    · rw [if_pos a, if_neg b]
      simp [b]
  · rw [if_neg a]
    have : ¬ (-1099511627776 ≤ lo) := a
    simp [this]

theorem rises_step {es : List Int} {i : Nat} (h1 : 1 ≤ i) (h : i < es.length) : risesB (es.drop (i - 1)) = (decide (es.getD (i - 1) 0 < es.getD i 0) && risesB (es.drop i)) := by
  have h0 : i - 1 < es.length := by omega
  rw [List.drop_eq_getElem_cons h0, show i - 1 + 1 = i by omega, List.drop_eq_getElem_cons h]
  simp [risesB, List.getD, List.getElem?_eq_getElem h0, List.getElem?_eq_getElem h]
theorem rises_end {es : List Int} {i : Nat} (h : ¬ i < es.length) : risesB (es.drop (i - 1)) = true := by
  have h0 : (es.drop (i - 1)).length ≤ 1 := by rw [List.length_drop]; omega
  match es.drop (i - 1), h0 with
  | [], _ => rfl
  | [a], _ => rfl
theorem rising_l0 (lo hi most : Int) (es : List Int) (hl : es.length ≤ 9223372036854775806) : ∀ d i : Nat, es.length - i = d → 1 ≤ i →
    Ev (fun k => clamp_plan_rising.l0 k (i : Int) lo hi most es) (risesB (es.drop (i - 1)) && decide (es.length ≤ 64))
  | d, i, hd, h1 => by
    refine Ev.succ ?_
    simp only [clamp_plan_rising.l0]
    by_cases h : i < es.length
    · have e1 : wrap64 ((i : Int) - 1) = ((i - 1 : Nat) : Int) := by rw [w64 (by omega)]; omega
      have e2 : wrap64 ((i : Int) + 1) = ((i + 1 : Nat) : Int) := by rw [w64 (by omega)]; omega
      rw [e1, e2]
      simp only [rd_nat]
      refine Ev.pos (by omega) (Ev.pos (by omega) (Ev.pos (by omega) (Ev.pos (by omega) ?_)))
      rw [rises_step h1 h]
      by_cases hc : es.getD i 0 ≤ es.getD (i - 1) 0
      · refine Ev.pos hc (Ev.some_ ?_)
        rw [decide_eq_false (by omega)]; rfl
      · refine Ev.neg hc ?_
        rw [decide_eq_true (by omega), Bool.true_and]
        exact rising_l0 lo hi most es hl (d - 1) (i + 1) (by omega) (by omega)
    · refine Ev.neg (by omega) (Ev.some_ ?_)
      rw [rises_end h, Bool.true_and]
      exact decide_eq_decide.2 (by omega)
  termination_by d _ => d
  decreasing_by all_goals omega

theorem rising_f (lo hi most : Int) (es : List Int) (hl : es.length ≤ 9223372036854775806) : Ev (fun k => clamp_plan_rising.f k lo hi most es) (risesB es && decide (es.length ≤ 64)) :=
  rising_l0 lo hi most es hl _ 1 rfl (Nat.le_refl _)

theorem sound_f (lo hi most : Int) (es : List Int) (hl : es.length ≤ 9223372036854775806) (h1 : -9223372036854775808 ≤ lo ∧ lo ≤ 9223372036854775807) (h2 : -9223372036854775808 ≤ hi ∧ hi ≤ 9223372036854775807) :
    Ev (fun k => clamp_Sound.f k lo hi most es) (soundE lo hi most es) := by
  unfold clamp_Sound.f soundE
  refine Ev.bind0 (bounds_f lo hi most es h1 h2) ?_
  by_cases hb : boundsB lo hi = true
  · simp only [hb, if_true]
    by_cases hm : most < 1
    · simp only [hm, if_true, true_or]
      refine Ev.succ ?_
      simp only [clamp_Sound.j0, if_true]
      exact Ev.now _
    · simp only [hm, if_false, false_or]
      refine Ev.succ ?_
      simp only [clamp_Sound.j0, decide_eq_true_eq]
      refine Ev.if_ (fun h => ?_) (fun h => ?_)
      · rw [if_pos h]; exact Ev.now _
      · rw [if_neg h]
        refine Ev.bind (rising_f lo hi most es hl) ?_
        simp only [Bool.and_eq_true, decide_eq_true_eq]
        by_cases hr : risesB es = true ∧ es.length ≤ 64
        · simp only [hr, and_self, if_true]; exact Ev.now _
        · simp only [hr, if_false]; exact Ev.now _
  · simp only [hb, Bool.false_eq_true, if_false]
    exact Ev.now _

theorem refSound_l0 (lo hi most : Int) (es : List Int) (hl : es.length ≤ 64) : ∀ d i : Nat, es.length - i = d → 1 ≤ i →
    Ev (fun k => offertoryref09_Sound.l0 k (i : Int) lo hi most es) (if risesB (es.drop (i - 1)) = true then 0 else 10)
  | d, i, hd, h1 => by
    refine Ev.succ ?_
    simp only [offertoryref09_Sound.l0]
    by_cases h : i < es.length
    · have e1 : wrap64 ((i : Int) - 1) = ((i - 1 : Nat) : Int) := by rw [w64 (by omega)]; omega
      have e2 : wrap64 ((i : Int) + 1) = ((i + 1 : Nat) : Int) := by rw [w64 (by omega)]; omega
      rw [e1, e2]
      simp only [rd_nat]
      refine Ev.pos (by omega) (Ev.pos (by omega) (Ev.pos (by omega) (Ev.pos (by omega) ?_)))
      rw [rises_step h1 h]
      by_cases hc : es.getD (i - 1) 0 ≥ es.getD i 0
      · refine Ev.pos hc (Ev.some_ ?_)
        rw [decide_eq_false (by omega)]; rfl
      · refine Ev.neg hc ?_
        rw [decide_eq_true (by omega), Bool.true_and]
        exact refSound_l0 lo hi most es hl (d - 1) (i + 1) (by omega) (by omega)
    · refine Ev.neg (by omega) (Ev.some_ ?_)
      rw [rises_end h]; rfl
  termination_by d _ => d
  decreasing_by all_goals omega

theorem refSound_f (lo hi most : Int) (es : List Int) (h1 : -9223372036854775808 ≤ lo ∧ lo ≤ 9223372036854775807) (h2 : -9223372036854775808 ≤ hi ∧ hi ≤ 9223372036854775807) :
    Ev (fun k => offertoryref09_Sound.f k lo hi most es) (soundE lo hi most es) := by
  have hj1 : ∀ b, boundsB lo hi = true → ¬ most < 1 → b = decide (most > 65536) → Ev (fun k => offertoryref09_Sound.j1 k b lo hi most es) (soundE lo hi most es) := by
    intro b hb hm hb'
    subst hb'
    unfold soundE
    refine Ev.succ ?_
    simp only [offertoryref09_Sound.j1, decide_eq_true_eq, hb, if_true, hm, false_or]
    refine Ev.if_ (fun h => ?_) (fun h => ?_)
    · rw [if_pos h]; exact Ev.now _
    · rw [if_neg h]
      refine Ev.if_ (fun h3 => ?_) (fun h3 => ?_)
      · rw [if_neg (by omega)]; exact Ev.now _
      · have h4 := refSound_l0 lo hi most es (by omega) _ 1 rfl (Nat.le_refl _)
        have h5 : es.length ≤ 64 := by omega
        simp only [h5, and_true]
        simpa using h4
  have hj0 : ∀ b, boundsB lo hi = !b → Ev (fun k => offertoryref09_Sound.j0 k b lo hi most es) (soundE lo hi most es) := by
    intro b hb
    refine Ev.succ ?_
    simp only [offertoryref09_Sound.j0]
    cases b with
    | true =>
      simp only [if_true]
      refine Ev.some_ ?_
      unfold soundE
      rw [hb]; rfl
    | false =>
      simp only [Bool.false_eq_true, if_false]
      refine Ev.if_ (fun h => ?_) (fun h => ?_)
      · refine Ev.succ ?_
        simp only [offertoryref09_Sound.j1, if_true]
        refine Ev.some_ ?_
        unfold soundE
        rw [hb]
        simp [h]
      · exact hj1 _ (by rw [hb]; rfl) h rfl
  unfold offertoryref09_Sound.f
  refine Ev.if_ (fun h => hj0 _ ?_) (fun a => Ev.if_ (fun h => hj0 _ ?_) (fun b => Ev.if_ (fun h => hj0 _ ?_) (fun c => hj0 _ ?_)))
  · have : ¬ (-1099511627776 ≤ lo) := by omega
    simp [boundsB, this]
  · have : ¬ (hi ≤ 1099511627776) := by omega
    simp [boundsB, this]
  · have : ¬ (lo ≤ hi) := by omega
    simp [boundsB, this]
  · rw [w64 (by omega)]
    unfold boundsB
    rw [Bool.eq_iff_iff]
    simp only [decide_eq_true_eq, Bool.not_eq_true', decide_eq_false_iff_not]
    omega

/-- What a clamped sample is. -/
def clampV (lo hi x : Int) : Int := mn (mx x lo) hi
theorem clampV_eq {lo hi : Int} (h : lo ≤ hi) (x : Int) : clampV lo hi x = if x < lo then lo else if x > hi then hi else x := by
  unfold clampV mn mx
  split <;> split <;> (try split) <;> (try split) <;> (try split) <;> omega
theorem clampV_in {lo hi : Int} (h : lo ≤ hi) (x : Int) : lo ≤ clampV lo hi x ∧ clampV lo hi x ≤ hi := by
  rw [clampV_eq h]; split <;> (try split) <;> omega
theorem clampV_id {lo hi x : Int} (h1 : lo ≤ x) (h2 : x ≤ hi) : clampV lo hi x = x := by
  rw [clampV_eq (by omega)]; split <;> (try split) <;> omega

theorem clamp_f (lo hi most : Int) (es : List Int) (x : Int) (hl : es.length ≤ 9223372036854775806) (h1 : -9223372036854775808 ≤ lo ∧ lo ≤ 9223372036854775807) (h2 : -9223372036854775808 ≤ hi ∧ hi ≤ 9223372036854775807) :
    Ev (fun k => clamp_Clamp.f k lo hi most es x) (if soundE lo hi most es = 0 then (clampV lo hi x, 0) else (0, soundE lo hi most es)) := by
  unfold clamp_Clamp.f
  refine Ev.bind (sound_f lo hi most es hl h1 h2) ?_
  refine Ev.if_ (fun h => ?_) (fun h => ?_)
  · rw [if_pos h]; exact Ev.now _
  · rw [if_neg h]; exact Ev.now _

/-- The bits of a number. -/
def IsLen (x : Int) (n : Int) : Prop := 0 ≤ n ∧ x < 2 ^ n.toNat ∧ (n = 0 ∨ 2 ^ (n - 1).toNat ≤ x)
theorem IsLen.unique {x a b : Int} (ha : IsLen x a) (hb : IsLen x b) : a = b := by
  obtain ⟨a0, a1, a2⟩ := ha
  obtain ⟨b0, b1, b2⟩ := hb
  have key : ∀ a b : Int, 0 ≤ a → 0 ≤ b → x < 2 ^ a.toNat → (b = 0 ∨ 2 ^ (b - 1).toNat ≤ x) → b ≤ a := by
    intro a b ha hb h1 h2
    rcases h2 with h2 | h2
    · omega
    · rcases Int.lt_or_le a b with h | h
      · exfalso
        have h3 : (2 : Int) ^ a.toNat ≤ 2 ^ (b - 1).toNat := by
          have : (2 : Nat) ^ a.toNat ≤ 2 ^ (b - 1).toNat := Nat.pow_le_pow_right (by decide) (by omega)
          exact_mod_cast this
        omega
      · exact h
  have := key a b a0 b0 a1 b2
  have := key b a b0 a0 b1 a2
  omega
theorem two_le {a b : Nat} (h : a ≤ b) : (2 : Int) ^ a ≤ 2 ^ b := by
  have : (2 : Nat) ^ a ≤ 2 ^ b := Nat.pow_le_pow_right (by decide) h
  exact_mod_cast this
theorem isLen_up {x n : Int} {s : Nat} (h : IsLen (x / 2 ^ s) n) (hx : 0 ≤ x) (h1 : 1 ≤ n) : IsLen x (n + s) := by
  obtain ⟨h0, ha, hb⟩ := h
  have hp : (0 : Int) < 2 ^ s := by
    have : (0 : Nat) < 2 ^ s := Nat.pow_pos (by decide)
    exact_mod_cast this
  refine ⟨by omega, ?_, Or.inr ?_⟩
  · rw [show (n + (s : Int)).toNat = n.toNat + s by omega, Int.pow_add]
    exact Int.lt_mul_of_ediv_lt hp ha
  · rcases hb with hb | hb
    · omega
    · rw [show (n + (s : Int) - 1).toNat = (n - 1).toNat + s by omega, Int.pow_add]
      exact (Int.le_ediv_iff_mul_le hp).1 hb
def tabB : ByteArray := (⟨#[0, 1, 2, 2, 3, 3, 3, 3, 4, 4, 4, 4, 4, 4, 4, 4, 5, 5, 5, 5, 5, 5, 5, 5, 5, 5, 5, 5, 5, 5, 5, 5, 6, 6, 6, 6, 6, 6, 6, 6, 6, 6, 6, 6, 6, 6, 6, 6, 6, 6, 6, 6, 6, 6, 6, 6, 6, 6, 6, 6, 6, 6, 6, 6, 7, 7, 7, 7, 7, 7, 7, 7, 7, 7, 7, 7, 7, 7, 7, 7, 7, 7, 7, 7, 7, 7, 7, 7, 7, 7, 7, 7, 7, 7, 7, 7, 7, 7, 7, 7, 7, 7, 7, 7, 7, 7, 7, 7, 7, 7, 7, 7, 7, 7, 7, 7, 7, 7, 7, 7, 7, 7, 7, 7, 7, 7, 7, 7, 8, 8, 8, 8, 8, 8, 8, 8, 8, 8, 8, 8, 8, 8, 8, 8, 8, 8, 8, 8, 8, 8, 8, 8, 8, 8, 8, 8, 8, 8, 8, 8, 8, 8, 8, 8, 8, 8, 8, 8, 8, 8, 8, 8, 8, 8, 8, 8, 8, 8, 8, 8, 8, 8, 8, 8, 8, 8, 8, 8, 8, 8, 8, 8, 8, 8, 8, 8, 8, 8, 8, 8, 8, 8, 8, 8, 8, 8, 8, 8, 8, 8, 8, 8, 8, 8, 8, 8, 8, 8, 8, 8, 8, 8, 8, 8, 8, 8, 8, 8, 8, 8, 8, 8, 8, 8, 8, 8, 8, 8, 8, 8, 8, 8, 8, 8, 8, 8, 8, 8, 8, 8, 8, 8, 8, 8, 8, 8]⟩ : ByteArray)
theorem tab_ok : ∀ v : Fin 256, 0 ≤ bt tabB (v : Nat) ∧ bt tabB (v : Nat) ≤ 8 ∧ ((v : Nat) : Int) < 2 ^ (bt tabB (v : Nat)).toNat ∧ (bt tabB (v : Nat) = 0 ∨ (2 : Int) ^ (bt tabB (v : Nat) - 1).toNat ≤ (v : Nat)) ∧ ((v : Nat) = 0 ∨ 1 ≤ bt tabB (v : Nat)) := by decide +kernel
theorem tab_len {v : Int} (h : 0 ≤ v ∧ v < 256) : IsLen v (bt tabB v) ∧ bt tabB v ≤ 8 ∧ (v = 0 ∨ 1 ≤ bt tabB v) := by
  obtain ⟨m, rfl⟩ : ∃ m : Nat, v = m := ⟨v.toNat, by omega⟩
  have := tab_ok ⟨m, by omega⟩
  obtain ⟨h0, h1, h2, h3, h4⟩ := this
  refine ⟨⟨h0, h2, h3⟩, h1, ?_⟩
  rcases h4 with h4 | h4
  · left; simpa using h4
  · right; exact h4
set_option maxRecDepth 100000 in
theorem j0_eq (k : Nat) (x s : Int) : bits_Len64.j0 (k + 1) x s = if x ≥ 65536 then (if (x / 65536) ≥ 256 then (if 0 ≤ (((x / 65536) / 256) % 256) then (if (((x / 65536) / 256) % 256) < 256 then (some (wrap64 ((wrap64 ((wrap64 (s + 16)) + 8)) + (wrap64 (bt tabB (((x / 65536) / 256) % 256)))))) else (none)) else (none)) else (if 0 ≤ ((x / 65536) % 256) then (if ((x / 65536) % 256) < 256 then (some (wrap64 ((wrap64 (s + 16)) + (wrap64 (bt tabB ((x / 65536) % 256)))))) else (none)) else (none))) else (if x ≥ 256 then (if 0 ≤ ((x / 256) % 256) then (if ((x / 256) % 256) < 256 then (some (wrap64 ((wrap64 (s + 8)) + (wrap64 (bt tabB ((x / 256) % 256)))))) else (none)) else (none)) else (if 0 ≤ (x % 256) then (if (x % 256) < 256 then (some (wrap64 (s + (wrap64 (bt tabB (x % 256)))))) else (none)) else (none))) := by rfl
theorem len_j0 (x s : Int) (h0 : 0 ≤ x) (h1 : x < 4294967296) (hs : 0 ≤ s ∧ s ≤ 64) : ∃ n, IsLen x n ∧ n ≤ 32 ∧ (x = 0 ∨ 1 ≤ n) ∧ Ev (fun k => bits_Len64.j0 k x s) (s + n) := by
  have fold : ∀ (e : Int) (h : 0 ≤ e ∧ e < 256) (r : Int), ((fun _ : Nat => if 0 ≤ e then if e < 256 then some r else none else none)) = (fun _ : Nat => some r) := by
    intro e h r
    rw [if_pos h.1, if_pos h.2]
  by_cases ha : x ≥ 65536
  · by_cases hb : x / 65536 ≥ 256
    · obtain ⟨ht, h8, h9⟩ := tab_len (v := x / 65536 / 256) (by omega)
      have hge : 1 ≤ bt tabB (x / 65536 / 256) := by rcases h9 with h9 | h9 <;> omega
      refine ⟨bt tabB (x / 65536 / 256) + 8 + 16, ?_, by omega, by omega, ?_⟩
      · have h2 := isLen_up (s := 8) ht (by omega) hge
        exact isLen_up (s := 16) h2 h0 (by omega)
      · refine Ev.succ ?_
        simp only [j0_eq]
        refine Ev.pos ha (Ev.pos hb ?_)
        rw [show x / 65536 / 256 % 256 = x / 65536 / 256 by omega]
        rw [fold _ (by omega)]
        refine Ev.some_ ?_
        have := ht.1
        rw [w64 (x := s + 16) (by omega), w64 (x := s + 16 + 8) (by omega), w64 (x := bt tabB (x / 65536 / 256)) (by omega), w64 (by omega)]
        omega
    · obtain ⟨ht, h8, h9⟩ := tab_len (v := x / 65536) (by omega)
      have hge : 1 ≤ bt tabB (x / 65536) := by rcases h9 with h9 | h9 <;> omega
      refine ⟨bt tabB (x / 65536) + 16, isLen_up (s := 16) ht h0 hge, by omega, by omega, ?_⟩
      refine Ev.succ ?_
      simp only [j0_eq]
      refine Ev.pos ha (Ev.neg hb ?_)
      rw [show x / 65536 % 256 = x / 65536 by omega]
      rw [fold _ (by omega)]
      refine Ev.some_ ?_
      have := ht.1
      rw [w64 (x := s + 16) (by omega), w64 (x := bt tabB (x / 65536)) (by omega), w64 (by omega)]
      omega
  · by_cases hb : x ≥ 256
    · obtain ⟨ht, h8, h9⟩ := tab_len (v := x / 256) (by omega)
      have hge : 1 ≤ bt tabB (x / 256) := by rcases h9 with h9 | h9 <;> omega
      refine ⟨bt tabB (x / 256) + 8, isLen_up (s := 8) ht h0 hge, by omega, by omega, ?_⟩
      refine Ev.succ ?_
      simp only [j0_eq]
      refine Ev.neg ha (Ev.pos hb ?_)
      rw [show x / 256 % 256 = x / 256 by omega]
      rw [fold _ (by omega)]
      refine Ev.some_ ?_
      have := ht.1
      rw [w64 (x := s + 8) (by omega), w64 (x := bt tabB (x / 256)) (by omega), w64 (by omega)]
      omega
    · obtain ⟨ht, h8, h9⟩ := tab_len (v := x) (by omega)
      refine ⟨bt tabB x, ht, by omega, by omega, ?_⟩
      refine Ev.succ ?_
      simp only [j0_eq]
      refine Ev.neg ha (Ev.neg hb ?_)
      rw [show x % 256 = x by omega]
      rw [fold _ (by omega)]
      refine Ev.some_ ?_
      have := ht.1
      rw [w64 (x := bt tabB x) (by omega), w64 (by omega)]
theorem len_f (x : Int) (h : 0 ≤ x ∧ x ≤ 18446744073709551615) : ∃ n, IsLen x n ∧ n ≤ 64 ∧ (x = 0 ∨ 1 ≤ n) ∧ Ev (fun k => bits_Len64.f k x) n := by
  unfold bits_Len64.f
  by_cases hx : x ≥ 4294967296
  · obtain ⟨n, hn, h1, h2, h3⟩ := len_j0 (x / 4294967296) 32 (by omega) (by omega) (by omega)
    refine ⟨n + (32 : Nat), isLen_up (s := 32) hn h.1 (by omega), by omega, by omega, Ev.pos hx ?_⟩
    rw [show n + ((32 : Nat) : Int) = 32 + n by omega]
    exact h3
  · obtain ⟨n, hn, h1, h2, h3⟩ := len_j0 x 0 (by omega) (by omega) (by omega)
    refine ⟨n, hn, by omega, h2, Ev.neg hx ?_⟩
    rw [Int.zero_add] at h3
    exact h3

/-- How many bits a place of a plan has: the least number from 1 on whose power of two is beyond the bounds' difference. -/
def IsBits (lo hi n : Int) : Prop := 1 ≤ n ∧ hi - lo < 2 ^ n.toNat ∧ (n = 1 ∨ 2 ^ (n - 1).toNat ≤ hi - lo)
theorem IsBits.unique {lo hi a b : Int} (ha : IsBits lo hi a) (hb : IsBits lo hi b) : a = b := by
  obtain ⟨a0, a1, a2⟩ := ha
  obtain ⟨b0, b1, b2⟩ := hb
  have key : ∀ a b : Int, 1 ≤ a → 1 ≤ b → hi - lo < 2 ^ a.toNat → (b = 1 ∨ 2 ^ (b - 1).toNat ≤ hi - lo) → b ≤ a := by
    intro a b ha hb h1 h2
    rcases h2 with h2 | h2
    · omega
    · rcases Int.lt_or_le a b with h | h
      · exfalso
        have h3 := two_le (a := a.toNat) (b := (b - 1).toNat) (by omega)
        omega
      · exact h
  have := key a b a0 b0 a1 b2
  have := key b a b0 a0 b1 a2
  omega
theorem IsBits.le40 {lo hi n : Int} (h : IsBits lo hi n) (hd : hi - lo < 1099511627776) : n ≤ 40 := by
  obtain ⟨h0, h1, h2⟩ := h
  rcases h2 with h2 | h2
  · omega
  · rcases Int.lt_or_le 40 n with h3 | h3
    · exfalso
      have h4 := two_le (a := 40) (b := (n - 1).toNat) (by omega)
      have h5 : (2 : Int) ^ 40 = 1099511627776 := by decide
      omega
    · exact h3
theorem isBits_exists {lo hi : Int} (h0 : lo ≤ hi) (hd : hi - lo < 1099511627776) : ∃ n, IsBits lo hi n := by
  obtain ⟨n, hn, h1, h2, _⟩ := len_f (hi - lo) (by omega)
  obtain ⟨a, b, c⟩ := hn
  by_cases h3 : n = 0
  · subst h3
    have hb : hi - lo < 1 := by simpa using b
    exact ⟨1, by omega, by simp; omega, Or.inl rfl⟩
  · refine ⟨n, by omega, b, ?_⟩
    rcases c with c | c
    · omega
    · exact Or.inr c

theorem bits_f (lo hi most n : Int) (es : List Int) (hn : soundE lo hi most es = 0 → IsBits lo hi n) (hl : es.length ≤ 9223372036854775806) (h1 : -9223372036854775808 ≤ lo ∧ lo ≤ 9223372036854775807) (h2 : -9223372036854775808 ≤ hi ∧ hi ≤ 9223372036854775807) :
    Ev (fun k => clamp_Bits.f k lo hi most es) (if soundE lo hi most es = 0 then (n, 0) else (0, soundE lo hi most es)) := by
  unfold clamp_Bits.f
  refine Ev.bind (sound_f lo hi most es hl h1 h2) ?_
  refine Ev.if_ (fun h => ?_) (fun h => ?_)
  · rw [if_pos h]
    obtain ⟨a, b, c, d, _⟩ := sound0 h
    rw [w64 (by omega), wu64 (by omega)]
    obtain ⟨m, hm, h3, h4, h5⟩ := len_f (hi - lo) (by omega)
    refine Ev.bind h5 (Ev.some_ ?_)
    have e : IsBits lo hi (mx m 1) := by
      obtain ⟨m0, m1, m2⟩ := hm
      unfold mx
      split
      · have : m = 0 := by omega
        subst this
        have hb : hi - lo < 1 := by simpa using m1
        exact ⟨by omega, by simp; omega, Or.inl rfl⟩
      · refine ⟨by omega, m1, ?_⟩
        rcases m2 with m2 | m2
        · omega
        · exact Or.inr m2
    rw [e.unique (hn h)]
  · rw [if_neg h]; exact Ev.now _

theorem shl_one {x : Int} (h : 0 ≤ x ∧ x ≤ 41) : shl .i64 1 x = 2 ^ x.toNat := by
  unfold shl
  have h1 : min x.toNat IntKind.i64.bits = x.toNat := by simp [IntKind.bits]; omega
  rw [h1, Int.one_mul, IntKind.wrap_i64]
  have h2 := two_le (a := x.toNat) (b := 41) (by omega)
  have h3 : (2 : Int) ^ 41 = 2199023255552 := by decide
  have h4 : (0 : Int) ≤ 2 ^ x.toNat := by
    have : (0 : Nat) ≤ 2 ^ x.toNat := Nat.zero_le _
    exact_mod_cast this
  omega
theorem refBits_l0 (lo hi most n : Int) (es : List Int) (hn : IsBits lo hi n) (h0 : lo ≤ hi) (hd : hi - lo < 1099511627776) : ∀ (d : Nat) (i : Int), n - i = d → 1 ≤ i →
    Ev (fun k => offertoryref09_Bits.l0 k i lo hi most es) n
  | d, i, he, h1 => by
    have h40 := hn.le40 hd
    obtain ⟨n0, n1, n2⟩ := hn
    refine Ev.succ ?_
    simp only [offertoryref09_Bits.l0]
    rw [wu64 (by omega), w64 (x := hi - lo) (by omega), w64 (x := i + 1) (by omega), shl_one (by omega)]
    refine Ev.pos (by omega) ?_
    by_cases hc : i = n
    · subst hc
      exact Ev.neg (by omega) (Ev.now _)
    · have h3 : (2 : Int) ^ i.toNat ≤ hi - lo := by
        rcases n2 with n2 | n2
        · omega
        · have := two_le (a := i.toNat) (b := (n - 1).toNat) (by omega)
          omega
      exact Ev.pos h3 (refBits_l0 lo hi most n es ⟨n0, n1, n2⟩ h0 hd (d - 1) (i + 1) (by omega) (by omega))
  termination_by d _ => d
  decreasing_by all_goals omega
theorem refBits_f (lo hi most n : Int) (es : List Int) (hn : IsBits lo hi n) (h0 : lo ≤ hi) (hd : hi - lo < 1099511627776) : Ev (fun k => offertoryref09_Bits.f k lo hi most es) n := by
  have := hn.1
  exact refBits_l0 lo hi most n es hn h0 hd (n - 1).toNat 1 (by omega) (by omega)
theorem two_pos (n : Nat) : (0 : Int) < 2 ^ n := by
  have : (0 : Nat) < 2 ^ n := Nat.pow_pos (by decide)
  exact_mod_cast this
theorem shl_eq {x y : Int} (h0 : 0 ≤ y) (h1 : y ≤ 64) : shl .u64 x y = (x * 2 ^ y.toNat) % 18446744073709551616 := by
  unfold shl
  rw [IntKind.wrap_u64, show min y.toNat IntKind.u64.bits = y.toNat by simp [IntKind.bits]; omega]
theorem shr_eq {x y : Int} (h0 : 0 ≤ y) (h1 : y ≤ 64) : shr .u64 x y = x / 2 ^ y.toNat := by
  unfold shr
  rw [show min y.toNat IntKind.u64.bits = y.toNat by simp [IntKind.bits]; omega]
/-- 'or' of a multiple of a power of two and what is below it. -/
theorem or_pow {x y : Int} {n : Nat} (h0 : 0 ≤ x) (h1 : x * 2 ^ n < 18446744073709551616) (h2 : 0 ≤ y) (h3 : y < 2 ^ n) (h4 : y < 18446744073709551616) : Go.bits .or .u64 (x * 2 ^ n) y = x * 2 ^ n + y := by
  obtain ⟨a, rfl⟩ := Int.eq_ofNat_of_zero_le h0
  obtain ⟨b, rfl⟩ := Int.eq_ofNat_of_zero_le h2
  have e : (a : Int) * 2 ^ n = ((a * 2 ^ n : Nat) : Int) := by rw [Int.natCast_mul, Int.natCast_pow]; rfl
  have h3' : b < 2 ^ n := by
    have : ((b : Nat) : Int) < ((2 ^ n : Nat) : Int) := by rw [Int.natCast_pow]; exact h3
    exact_mod_cast this
  rw [e] at h1 ⊢
  rw [bits_or_u64_nat _ _ (Int.ofNat_lt.1 h1) (by omega), ← Nat.shiftLeft_eq, ← Nat.shiftLeft_add_eq_or_of_lt h3', Nat.shiftLeft_eq, Int.natCast_add]
theorem pow_split {n m : Nat} (h : n + m = 64) : (2 : Int) ^ n * 2 ^ m = 18446744073709551616 := by
  rw [← Int.pow_add, h]; rfl
/-- What the program's Shift answers. -/
theorem wShift_f {hi lo n : Int} (a : W64 hi) (b : W64 lo) (h0 : 0 ≤ n) (h1 : n ≤ 128) : wide_Shift.f hi lo n = some (wd (wv hi lo * 2 ^ n.toNat)) := by
  obtain ⟨m, rfl⟩ := Int.eq_ofNat_of_zero_le h0
  rw [Int.toNat_natCast]
  unfold wide_Shift.f
  by_cases c1 : (m : Int) < 1
  · rw [if_pos c1]
    have : m = 0 := by omega
    subst this
    rw [Int.pow_zero, Int.mul_one, wd_wv a b]
  rw [if_neg c1]
  by_cases c2 : (m : Int) > 127
  · rw [if_pos c2]
    have : m = 128 := by omega
    subst this
    rw [show (2 : Int) ^ 128 = 340282366920938463463374607431768211456 from rfl]
    generalize wv hi lo = v
    simp only [wd, Option.some.injEq, Prod.mk.injEq]
    omega
  rw [if_neg c2]
  by_cases c3 : (m : Int) > 63
  · rw [if_pos c3, w64 (by omega), if_pos (by omega), shl_eq (by omega) (by omega)]
    rw [show ((m : Int) - 64).toNat = m - 64 by omega]
    have e : (2 : Int) ^ m = 2 ^ (m - 64) * 18446744073709551616 := by
      rw [show (18446744073709551616 : Int) = 2 ^ 64 from rfl, ← Int.pow_add, show m - 64 + 64 = m by omega]
    rw [e]
    generalize (2 : Int) ^ (m - 64) = q
    have e2 : wv hi lo * (q * 18446744073709551616) = lo * q * 18446744073709551616 + hi * q * 340282366920938463463374607431768211456 := by
      unfold wv
      rw [Int.add_mul]
      congr 1
      · rw [← Int.mul_assoc]
      · rw [Int.mul_assoc hi, Int.mul_comm 18446744073709551616 (q * 18446744073709551616), Int.mul_assoc q, ← Int.mul_assoc hi]
        rfl
    rw [e2]
    generalize lo * q = r
    generalize hi * q = s
    simp only [wd, Option.some.injEq, Prod.mk.injEq]
    omega
  rw [if_neg c3, if_pos (by omega), w64 (x := 64 - (m : Int)) (by omega), if_pos (by omega), shl_eq (by omega) (by omega), shl_eq (by omega) (by omega), shr_eq (by omega) (by omega)]
  rw [show ((m : Int)).toNat = m by omega, show (64 - (m : Int)).toNat = 64 - m by omega]
  have hs := pow_split (n := m) (m := 64 - m) (by omega)
  have hp := two_pos m
  have hq := two_pos (64 - m)
  have eh : hi * 2 ^ m % 18446744073709551616 = hi % 2 ^ (64 - m) * 2 ^ m := by
    rw [← hs, Int.mul_comm hi, Int.mul_emod_mul_of_pos _ _ hp, Int.mul_comm]
  have hlt : hi % 2 ^ (64 - m) < 2 ^ (64 - m) := Int.emod_lt_of_pos _ hq
  have hge : 0 ≤ hi % 2 ^ (64 - m) := Int.emod_nonneg _ (by omega)
  have el : lo / 2 ^ (64 - m) < 2 ^ m := by
    refine Int.ediv_lt_of_lt_mul hq ?_
    rw [hs]
    have := b.2
    omega
  have el0 : 0 ≤ lo / 2 ^ (64 - m) := Int.ediv_nonneg b.1 (by omega)
  have el1 : lo / 2 ^ (64 - m) ≤ lo := Int.ediv_le_self _ b.1
  have em : 0 ≤ hi * 2 ^ m % 18446744073709551616 ∧ hi * 2 ^ m % 18446744073709551616 < 18446744073709551616 := by omega
  rw [eh] at em ⊢
  rw [or_pow hge em.2 el0 el (by have := b.2; omega)]
  have e3 : lo * 2 ^ m / 18446744073709551616 = lo / 2 ^ (64 - m) := by
    rw [← hs, Int.mul_comm (2 ^ m) (2 ^ (64 - m)), Int.mul_ediv_mul_of_pos_left _ _ hp]
  have e4 : wv hi lo * 2 ^ m = lo * 2 ^ m + hi * 2 ^ m * 18446744073709551616 := by
    unfold wv
    rw [Int.add_mul, Int.mul_assoc hi, Int.mul_comm 18446744073709551616, ← Int.mul_assoc]
  rw [e4, ← e3, ← eh]
  have hfit : hi * 2 ^ m % 18446744073709551616 + lo * 2 ^ m / 18446744073709551616 < 18446744073709551616 := by
    rw [eh, e3]
    have h5 : hi % 2 ^ (64 - m) * 2 ^ m + 2 ^ m ≤ 2 ^ (64 - m) * 2 ^ m := by
      have := Int.mul_le_mul_of_nonneg_right (show hi % 2 ^ (64 - m) + 1 ≤ 2 ^ (64 - m) by omega) (Int.le_of_lt hp)
      rw [Int.add_mul, Int.one_mul] at this
      exact this
    rw [Int.mul_comm (2 ^ (64 - m)) (2 ^ m), hs] at h5
    omega
  generalize hi * 2 ^ m = x at *
  generalize lo * 2 ^ m = y at *
  simp only [wd, Option.some.injEq, Prod.mk.injEq]
  omega
/-- Numbers of bits, times their powers of two, from a power on. -/
def powS : Nat → List Int → Int
  | _, [] => 0
  | i, x :: l => x * 2 ^ i + powS (i + 1) l
theorem powers_l0 (l : List Int) (hl : l.length ≤ 128) (hr : ∀ x ∈ l, 0 ≤ x ∧ x ≤ 4294967295) : ∀ (d i : Nat) (S : Int), i + d = l.length → Ev (fun k => stats_powers.l0 k l (l.length : Int) (i : Int) (wd S).1 (wd S).2) (wd (S + powS i (l.drop i))) := by
  intro d
  induction d with
  | zero =>
    intro i S hi
    refine Ev.succ ?_
    simp only [stats_powers.l0]
    refine Ev.neg (by omega) (Ev.some_ ?_)
    rw [List.drop_eq_nil_of_le (by omega)]
    show wd S = wd (S + 0)
    rw [Int.add_zero]
  | succ d ih =>
    intro i S hi
    have hlt : i < l.length := by omega
    have hx := hr _ (List.getElem_mem hlt)
    refine Ev.succ ?_
    simp only [stats_powers.l0, rd_nat]
    have eg : l.getD i 0 = l[i] := by simp [List.getD, List.getElem?_eq_getElem hlt]
    rw [eg, wu64 (by omega)]
    have hs := wShift_f (hi := 0) (lo := l[i]) (n := (i : Int)) (by unfold W64; omega) (by unfold W64; omega) (by omega) (by omega)
    rw [show wv 0 l[i] = l[i] by unfold wv; omega, Int.toNat_natCast] at hs
    refine Ev.pos (by omega) (Ev.pos (by omega) (Ev.pos (by omega) (Ev.bind0 hs (Ev.bind0 (add_w S _) ?_))))
    rw [w64 (by omega), List.drop_eq_getElem_cons hlt]
    have := ih (i + 1) (S + l[i] * 2 ^ i) (by omega)
    rw [show S + powS i (l[i] :: l.drop (i + 1)) = S + l[i] * 2 ^ i + powS (i + 1) (l.drop (i + 1)) by show S + (l[i] * 2 ^ i + powS (i + 1) (l.drop (i + 1))) = _; omega]
    exact this
theorem powers_f (l : List Int) (hl : l.length ≤ 128) (hr : ∀ x ∈ l, 0 ≤ x ∧ x ≤ 4294967295) : Ev (fun k => stats_powers.f k l) (wd (powS 0 l)) := by
  unfold stats_powers.f
  have := powers_l0 l hl hr l.length 0 0 (by omega)
  rw [List.drop_zero, Int.zero_add] at this
  exact this
theorem shift1 (u : Int) : wide_Shift.f (wd u).1 (wd u).2 1 = some (wd (2 * u)) := by
  rw [wShift_f (wd_in u).1 (wd_in u).2 (by omega) (by omega), wv_wd]
  congr 1
  exact wd_mod (by rw [show (1 : Int).toNat = 1 from rfl]; omega)
/-- The stats that a vector's parts come to; or that they are none. -/
def decV (lo : Int) (bins : List Int) (cnt : Int) (places squares : List Int) : List Int × Int × Int × Int × Int × Int × Bool × Int :=
  if bins.sum = cnt then (if (places.any fun n => decide (n > cnt)) = true then ([], 0, 0, 0, 0, 0, false, 11) else if (squares.any fun n => decide (n > cnt)) = true then ([], 0, 0, 0, 0, 0, false, 11) else
    (bins, cnt, (resS (powS 0 places + cnt * lo)).1, (resS (powS 0 places + cnt * lo)).2.1, (wd (powS 0 squares + 2 * lo * powS 0 places + cnt * (lo * lo))).1, (wd (powS 0 squares + 2 * lo * powS 0 places + cnt * (lo * lo))).2, (resS (powS 0 places + cnt * lo)).2.2, 0)) else ([], 0, 0, 0, 0, 0, false, 11)
theorem decSums_f (lo : Int) (bins : List Int) (cnt : Int) (places squares : List Int) (h1 : -9223372036854775808 ≤ lo ∧ lo ≤ 9223372036854775807) (hc : 0 ≤ cnt ∧ cnt ≤ 4294967295) (hp : places.length ≤ 128) (hq : squares.length ≤ 128) (hpr : ∀ x ∈ places, 0 ≤ x ∧ x ≤ 4294967295) (hqr : ∀ x ∈ squares, 0 ≤ x ∧ x ≤ 4294967295) :
    Ev (fun k => decSums k lo bins cnt places squares) (bins, cnt, (resS (powS 0 places + cnt * lo)).1, (resS (powS 0 places + cnt * lo)).2.1, (wd (powS 0 squares + 2 * lo * powS 0 places + cnt * (lo * lo))).1, (wd (powS 0 squares + 2 * lo * powS 0 places + cnt * (lo * lo))).2, (resS (powS 0 places + cnt * lo)).2.2, 0) := by
  unfold decSums
  refine Ev.bind0 (of_w h1) (Ev.bind (powers_f places hp hpr) (Ev.bind0 (of_w (by omega)) (Ev.bind (powers_f squares hq hqr) (Ev.bind0 (shift1 lo) (Ev.bind0 (product_w _ _) (Ev.bind0 (add_w _ _) (Ev.bind0 (product_w _ _) (Ev.bind0 (product_w _ _) (Ev.bind0 (add_w _ _) (Ev.bind0 (product_w _ _) (Ev.bind0 (add_w _ _) (Ev.bind0 (signed_r _) (Ev.now _)))))))))))))
theorem decBody_f (lo : Int) (bins : List Int) (cnt : Int) (places squares : List Int) (h1 : -9223372036854775808 ≤ lo ∧ lo ≤ 9223372036854775807) (hc : 0 ≤ cnt ∧ cnt ≤ 4294967295) (hp : places.length ≤ 128) (hq : squares.length ≤ 128) (hpr : ∀ x ∈ places, 0 ≤ x ∧ x ≤ 4294967295) (hqr : ∀ x ∈ squares, 0 ≤ x ∧ x ≤ 4294967295) :
    Ev (fun k => decBody k lo bins cnt places squares) (decV lo bins cnt places squares) := by
  unfold decBody decV
  refine Ev.bind0 (a := places.any fun n => decide (n > cnt)) (by unfold stats_above.f; rw [if_pos (by omega)]) (Ev.bind0 (a := squares.any fun n => decide (n > cnt)) (by unfold stats_above.f; rw [if_pos (by omega)]) ?_)
  refine Ev.if_ (fun h => ?_) (fun h => ?_)
  · rw [if_pos h]
    refine Ev.if_ (fun h2 => ?_) (fun h2 => ?_)
    · rw [if_pos h2]; exact Ev.now _
    · rw [if_neg h2]
      refine Ev.if_ (fun h3 => ?_) (fun h3 => ?_)
      · rw [if_pos h3]; exact Ev.now _
      · rw [if_neg h3]; exact decSums_f lo bins cnt places squares h1 hc hp hq hpr hqr
  · rw [if_neg h]; exact Ev.now _
theorem len_t (lo hi most n : Int) (es : List Int) (hn : soundE lo hi most es = 0 → IsBits lo hi n) (hl : es.length ≤ 9223372036854775806) (h1 : -9223372036854775808 ≤ lo ∧ lo ≤ 9223372036854775807) (h2 : -9223372036854775808 ≤ hi ∧ hi ≤ 9223372036854775807) :
    Ev (fun k => tally_Len.f k lo hi most es) (if soundE lo hi most es = 0 then ((es.length : Int) + 2 + 3 * n, 0) else (0, soundE lo hi most es)) := by
  unfold tally_Len.f
  refine Ev.bind (bits_f lo hi most n es hn hl h1 h2) ?_
  by_cases h : soundE lo hi most es = 0
  · simp only [h, if_true]
    obtain ⟨a, b, c, d, _, _, _, e⟩ := sound0 h
    have hb := hn h
    have h40 := hb.le40 d
    have h01 := hb.1
    refine Ev.some_ ?_
    rw [w64 (x := (es.length : Int) + 1) (by omega), w64 (x := (es.length : Int) + 1 + 1) (by omega), w64 (x := (es.length : Int) + 1 + 1 + n) (by omega), w64 (x := 2 * n) (by omega), w64 (by omega)]
    congr 1
    omega
  · simp only [h, if_false]
    exact Ev.now _
theorem mem_take32 {l : List Int} (h : ∀ x ∈ l, 0 ≤ x ∧ x ≤ 4294967295) (n m : Nat) : ∀ x ∈ (l.drop n).take m, 0 ≤ x ∧ x ≤ 4294967295 := fun x hx => h x (List.mem_of_mem_drop (List.mem_of_mem_take hx))
theorem mem_drop32 {l : List Int} (h : ∀ x ∈ l, 0 ≤ x ∧ x ≤ 4294967295) (n : Nat) : ∀ x ∈ l.drop n, 0 ≤ x ∧ x ≤ 4294967295 := fun x hx => h x (List.mem_of_mem_drop hx)
/-- What Decode answers for a vector of the right length. -/
theorem decode_f (lo hi most n : Int) (es v : List Int) (hs : soundE lo hi most es = 0) (hn : IsBits lo hi n) (hl : v.length = es.length + 2 + 3 * n.toNat) (hr : ∀ x ∈ v, 0 ≤ x ∧ x ≤ 4294967295) :
    Ev (fun k => stats_Decode.f k lo hi most es v) (decV lo (v.take (es.length + 1)) (v.getD (es.length + 1) 0) ((v.drop (es.length + 2)).take n.toNat) (v.drop (es.length + 2 + n.toNat))) := by
  obtain ⟨a1, a2, a3, a4, a5, a6, a7, a8⟩ := sound0 hs
  have h40 := hn.le40 a4
  have h01 := hn.1
  have hlen := len_t lo hi most n es (fun _ => hn) (by omega) (by omega) (by omega)
  have hbits := bits_f lo hi most n es (fun _ => hn) (by omega) (by omega) (by omega)
  rw [if_pos hs] at hlen hbits
  unfold stats_Decode.f
  refine Ev.bind hlen (Ev.pos rfl (Ev.pos (by omega) (Ev.bind hbits (Ev.pos ⟨h01, by omega, by omega, hl, hr⟩ ?_))))
  refine decBody_f lo _ _ _ _ (by omega) ?_ (by rw [List.length_take, List.length_drop]; omega) (by rw [List.length_drop]; omega) (mem_take32 hr _ _) (mem_drop32 hr _)
  have hi2 : es.length + 1 < v.length := by omega
  rw [show v.getD (es.length + 1) 0 = v[es.length + 1] by simp [List.getD, List.getElem?_eq_getElem hi2]]
  exact hr _ (List.getElem_mem hi2)
/-- And for any other one. -/
theorem decode_no (lo hi most : Int) (es v : List Int) (hl : es.length ≤ 9223372036854775806) (h1 : -9223372036854775808 ≤ lo ∧ lo ≤ 9223372036854775807) (h2 : -9223372036854775808 ≤ hi ∧ hi ≤ 9223372036854775807) (n : Int) (hn : soundE lo hi most es = 0 → IsBits lo hi n) (hno : soundE lo hi most es = 0 → (v.length : Int) ≠ es.length + 2 + 3 * n) :
    Ev (fun k => stats_Decode.f k lo hi most es v) ([], 0, 0, 0, 0, 0, false, if soundE lo hi most es = 0 then 1 else soundE lo hi most es) := by
  have hlen := len_t lo hi most n es hn hl h1 h2
  unfold stats_Decode.f
  refine Ev.bind hlen ?_
  by_cases h : soundE lo hi most es = 0
  · simp only [h, if_true]
    exact Ev.neg (hno h) (Ev.now _)
  · simp only [h, if_false]
    exact Ev.now _
theorem powS_snoc (x : Int) : ∀ (l : List Int) (k : Nat), powS k (l ++ [x]) = powS k l + x * 2 ^ (k + l.length)
  | [], k => by simp [powS]
  | y :: l, k => by
    rw [List.cons_append, powS, powS, powS_snoc x l (k + 1), List.length_cons, show k + 1 + l.length = k + (l.length + 1) by omega]
    omega
theorem take_snoc (d : List Int) (i : Nat) (h : i < d.length) : d.take (i + 1) = d.take i ++ [d.getD i 0] := by
  rw [List.take_succ_eq_append_getElem h]
  simp [List.getD, h]
theorem dT_succ (b : Nat) (cnt : Int) (d : List Int) (i : Nat) (s : Bool) (P Q : Int) : dT b cnt d (i + 1) s P Q = dT b cnt d i (s || decide (cnt < d.getD i 0)) (if b ≤ i then P else P + P + d.getD i 0) (if b ≤ i then Q + Q + d.getD i 0 else Q) := rfl
theorem dT_low (b : Nat) (cnt : Int) (d : List Int) : ∀ (i : Nat) (s : Bool) (P Q : Int), i ≤ b → i ≤ d.length → dT b cnt d i s P Q = (s || (d.take i).any (fun n => decide (n > cnt)), 2 ^ i * P + powS 0 (d.take i), Q)
  | 0, s, P, Q, _, _ => by simp [dT, powS]
  | i + 1, s, P, Q, h, hl => by
    have ih := dT_low b cnt d i (s || decide (cnt < d.getD i 0)) (P + P + d.getD i 0) Q (by omega) (by omega)
    unfold dT
    rw [if_neg (by omega), if_neg (by omega), ih, take_snoc d i (by omega), List.any_append, powS_snoc, List.length_take, Nat.min_eq_left (by omega)]
    refine Prod.ext ?_ (Prod.ext ?_ rfl)
    · simp only [List.any_cons, List.any_nil, Bool.or_false, gt_iff_lt]
      cases s <;> cases decide (cnt < d.getD i 0) <;> cases (d.take i).any (fun n => decide (cnt < n)) <;> rfl
    · show 2 ^ i * (P + P + d.getD i 0) + powS 0 (d.take i) = 2 ^ (i + 1) * P + (powS 0 (d.take i) + d.getD i 0 * 2 ^ (0 + i))
      rw [Nat.zero_add, Int.pow_succ, Int.mul_add, Int.mul_add, Int.mul_comm (d.getD i 0), Int.mul_assoc, Int.two_mul, Int.mul_add]
      omega
theorem dT_high (b : Nat) (cnt : Int) (d : List Int) : ∀ (j : Nat) (s : Bool) (P Q : Int), b + j ≤ d.length → dT b cnt d (b + j) s P Q = dT b cnt d b (s || ((d.drop b).take j).any (fun n => decide (n > cnt))) P (2 ^ j * Q + powS 0 ((d.drop b).take j))
  | 0, s, P, Q, _ => by simp [powS]
  | j + 1, s, P, Q, hl => by
    have ih := dT_high b cnt d j (s || decide (cnt < d.getD (b + j) 0)) P (Q + Q + d.getD (b + j) 0) (by omega)
    have e : (d.drop b).getD j 0 = d.getD (b + j) 0 := by simp [List.getD, List.getElem?_drop]
    show dT b cnt d (b + j + 1) s P Q = _
    rw [dT_succ, if_pos (by omega), if_pos (by omega), ih, take_snoc (d.drop b) j (by rw [List.length_drop]; omega), e, List.any_append, powS_snoc, List.length_take, List.length_drop, Nat.min_eq_left (by omega)]
    congr 1
    · simp only [List.any_cons, List.any_nil, Bool.or_false, gt_iff_lt]
      cases s <;> cases decide (cnt < d.getD (b + j) 0) <;> cases ((d.drop b).take j).any (fun n => decide (cnt < n)) <;> rfl
    · rw [Nat.zero_add, Int.pow_succ, Int.mul_add, Int.mul_add, Int.mul_comm (d.getD (b + j) 0), Int.mul_assoc, Int.two_mul, Int.mul_add]
      omega
theorem dT_all (b : Nat) (cnt : Int) (d : List Int) (s : Bool) (h : d.length = 3 * b) : dT b cnt d (3 * b) s 0 0 = ((s || (d.drop b).any (fun n => decide (n > cnt))) || (d.take b).any (fun n => decide (n > cnt)), powS 0 (d.take b), powS 0 (d.drop b)) := by
  rw [show 3 * b = b + 2 * b by omega, dT_high b cnt d (2 * b) s 0 0 (by omega), List.take_of_length_le (by rw [List.length_drop]; omega), dT_low b cnt d b _ _ _ (Nat.le_refl _) (by omega)]
  simp
theorem wdH_eq (v : Int) : wdH v = wd v := rfl
theorem resH_eq (u : Int) : ((wdH (absH u)).1, (wdH (absH u)).2, negH u) = resS u := by
  unfold resS absH
  have e : negH u = negB u := rfl
  rw [e]
  cases h : negB u <;> rfl
theorem decR_eq (lo : Int) (N b : Nat) (v : List Int) (h : v.length = N + 1 + 3 * b) : decR lo N b v = decV lo (v.take N) (v.getD N 0) ((v.drop (N + 1)).take b) (v.drop (N + 1 + b)) := by
  unfold decR decV
  rw [dT_all b _ _ _ (by rw [List.length_drop]; omega), List.drop_drop]
  simp only
  generalize v.getD N 0 = cnt
  generalize (v.drop (N + 1)).take b = pl
  generalize v.drop (N + 1 + b) = sq
  generalize v.take N = bins
  by_cases h1 : bins.sum = cnt
  · rw [if_pos h1]
    have e1 : (bins.sum != cnt) = false := bne_eq_false_iff_eq.2 h1
    rw [e1, Bool.false_or]
    cases h2 : pl.any (fun n => decide (n > cnt))
    · cases h3 : sq.any (fun n => decide (n > cnt))
      · have hr := resH_eq (powS 0 pl + cnt * lo)
        simp only [Bool.or_self, Bool.false_eq_true, if_false]
        rw [← hr, wdH_eq, show powS 0 sq + (lo + lo) * powS 0 pl + cnt * (lo * lo) = powS 0 sq + 2 * lo * powS 0 pl + cnt * (lo * lo) by rw [show lo + lo = 2 * lo by omega]]
        rfl
      · rfl
    · cases h3 : sq.any (fun n => decide (n > cnt)) <;> rfl
  · rw [if_neg h1]
    have e1 : (bins.sum != cnt) = true := bne_iff_ne.2 h1
    rw [e1, Bool.true_or, Bool.true_or, if_pos rfl]
theorem refLen_d (lo hi most n : Int) (es : List Int) (hn : IsBits lo hi n) (h0 : lo ≤ hi) (hd : hi - lo < 1099511627776) (hl : es.length ≤ 64) : Ev (fun k => offertoryref09_Len.f k lo hi most es) ((es.length : Int) + 2 + 3 * n) := by
  have h40 := hn.le40 hd
  have h01 := hn.1
  unfold offertoryref09_Len.f
  refine Ev.bind (refBits_f lo hi most n es hn h0 hd) (Ev.some_ ?_)
  rw [w64 (x := (es.length : Int) + 2) (by omega), w64 (x := 3 * n) (by omega), w64 (by omega)]
theorem refDecode_f (lo hi most n : Int) (es v : List Int) (hs : soundE lo hi most es = 0) (hn : IsBits lo hi n) (hl : v.length = es.length + 2 + 3 * n.toNat) (hr : ∀ x ∈ v, 0 ≤ x ∧ x ≤ 4294967295) :
    Ev (fun k => offertoryref09_Decode.f k lo hi most es v) (decV lo (v.take (es.length + 1)) (v.getD (es.length + 1) 0) ((v.drop (es.length + 2)).take n.toNat) (v.drop (es.length + 2 + n.toNat))) := by
  obtain ⟨a1, a2, a3, a4, a5, a6, a7, a8⟩ := sound0 hs
  have h40 := hn.le40 a4
  have h01 := hn.1
  unfold offertoryref09_Decode.f
  refine Ev.bind (refBits_f lo hi most n es hn a3 a4) (Ev.pos ⟨⟨h01, by omega⟩, by omega, hl, hr, by omega⟩ (Ev.some_ ?_))
  exact decR_eq lo (es.length + 1) n.toNat v (by omega)
end Go.Proofs.Ytdpekjffjobabaa.Plain
