/- Wide numbers, and are two stats the same, in plain numbers. -/
import Derived.Test.YticihbccflflfaaPAllx2
import Derived.Test.YticihbccflflfaaPAllx4
import Derived.Test.YticihbccflflfaaPAllx6
import Derived.Test.YticihbccflflfaaPAllx8
import Derived.Test.YticihbccflflfaaPAllx9
import Derived.Test.YticihbccflflfaaPAllx10
import Derived.Test.YticihbccflflfaaPAllx12

import Derived.Test.YticihbccflflfaaBase
namespace Go.Proofs.Yticihbccflflfaa.Plain
open Go.RowKit Go.Proofs.Yticihbccflflfaa.PAll Go.Proofs.Yticihbccflflfaa.Opn Go.Proofs.Yticihbccflflfaa.Base Go.Proofs.YticihbccflflfaaW.PrintWords Go.Proofs.YticihbccflflfaaW.PrintLast Go.Proofs.YticihbccflflfaaW.PrintMore
set_option linter.unusedVariables false
set_option linter.unusedSimpArgs false
set_option linter.unusedSimpArgs false

/-- The number of a wide one; a number's wide one. -/
def wv (hi lo : Int) : Int := lo + hi * 18446744073709551616
def wd (v : Int) : Int × Int := (v / 18446744073709551616 % 18446744073709551616, v % 18446744073709551616)
def W64 (x : Int) : Prop := 0 ≤ x ∧ x ≤ 18446744073709551615
theorem wd_in (v : Int) : W64 (wd v).1 ∧ W64 (wd v).2 := by simp only [wd, W64]; omega
theorem wv_wd (v : Int) : wv (wd v).1 (wd v).2 = v % 340282366920938463463374607431768211456 := by simp only [wv, wd]; omega
theorem wd_wv {hi lo : Int} (h : W64 hi) (l : W64 lo) : wd (wv hi lo) = (hi, lo) := by
  unfold W64 at h l
  simp only [wv, wd, Prod.mk.injEq]; omega
theorem wd_mod {v u : Int} (h : v % 340282366920938463463374607431768211456 = u % 340282366920938463463374607431768211456) : wd v = wd u := by
  simp only [wd, Prod.mk.injEq]; omega
theorem bD_in (v : Int) (i : Nat) : 0 ≤ bigD v i ∧ bigD v i ≤ 65535 := by unfold bigD; omega
theorem dig_digs (v : Int) : Dig (bigD v 0) (bigD v 1) (bigD v 2) (bigD v 3) (bigD v 4) (bigD v 5) (bigD v 6) (bigD v 7) :=
  ⟨bD_in v 0, bD_in v 1, bD_in v 2, bD_in v 3, bD_in v 4, bD_in v 5, bD_in v 6, bD_in v 7⟩
theorem bV_digs (v : Int) : bigV (bigD v 0) (bigD v 1) (bigD v 2) (bigD v 3) (bigD v 4) (bigD v 5) (bigD v 6) (bigD v 7) = v % 340282366920938463463374607431768211456 := by
  simp only [bigV, bigD]
  omega
theorem digs_eq {v w : Int} (h : v % 340282366920938463463374607431768211456 = w % 340282366920938463463374607431768211456) : digs v = digs w := by
  have key : ∀ x : Int, digs x = digs (x % 340282366920938463463374607431768211456) := by
    intro x
    simp only [digs, bigD, Prod.mk.injEq]
    omega
  rw [key v, key w, h]
theorem of_f {hi lo : Int} (h : W64 hi) (l : W64 lo) : offertoryref09_Of.f hi lo = some (digs (wv hi lo)) := by
  unfold offertoryref09_Of.f
  rw [if_pos ⟨h, l⟩]
  rfl
theorem bigAdd_f (u v : Int) : offertoryref09_Add.f (bigD u 0) (bigD u 1) (bigD u 2) (bigD u 3) (bigD u 4) (bigD u 5) (bigD u 6) (bigD u 7) (bigD v 0) (bigD v 1) (bigD v 2) (bigD v 3) (bigD v 4) (bigD v 5) (bigD v 6) (bigD v 7) = some (digs (u + v)) := by
  unfold offertoryref09_Add.f
  rw [if_pos ⟨dig_digs u, dig_digs v⟩, bV_digs, bV_digs]
  congr 1
  exact digs_eq (by omega)
theorem bigNeg_f (v : Int) : offertoryref09_Neg.f (bigD v 0) (bigD v 1) (bigD v 2) (bigD v 3) (bigD v 4) (bigD v 5) (bigD v 6) (bigD v 7) = some (digs (-v)) := by
  unfold offertoryref09_Neg.f
  rw [if_pos (dig_digs v), bV_digs]
  congr 1
  exact digs_eq (by omega)
theorem bigWide_f (v : Int) : offertoryref09_Big_Wide.f (bigD v 0) (bigD v 1) (bigD v 2) (bigD v 3) (bigD v 4) (bigD v 5) (bigD v 6) (bigD v 7) = some (wd v) := by
  unfold offertoryref09_Big_Wide.f
  rw [if_pos (dig_digs v)]
  simp only [wd, bigD, Option.some.injEq, Prod.mk.injEq]
  omega
theorem wAdd_f {h1 l1 h2 l2 : Int} (a : W64 h1) (b : W64 l1) (c : W64 h2) (d : W64 l2) : wide_Add.f h1 l1 h2 l2 = some (wd (wv h1 l1 + wv h2 l2)) := by
  unfold W64 at a b c d
  unfold wide_Add.f
  rw [if_pos (by omega)]
  simp only [wd, wv, Option.some.injEq, Prod.mk.injEq]
  omega
theorem wSub_f {h1 l1 h2 l2 : Int} (a : W64 h1) (b : W64 l1) (c : W64 h2) (d : W64 l2) : wide_Sub.f h1 l1 h2 l2 = some (wd (wv h1 l1 - wv h2 l2)) := by
  unfold W64 at a b c d
  unfold wide_Sub.f borrow
  rw [if_pos (by omega)]
  simp only [wd, wv, Option.some.injEq, Prod.mk.injEq]
  split <;> omega
theorem wNeg_f {h1 l1 : Int} (a : W64 h1) (b : W64 l1) : wide_Neg.f h1 l1 = some (wd (- wv h1 l1)) := by
  unfold wide_Neg.f
  rw [wSub_f (by unfold W64; omega) (by unfold W64; omega) a b]
  simp only [Option.bind_some]
  rw [show wv 0 0 - wv h1 l1 = - wv h1 l1 by unfold wv; omega]
theorem add_w (u v : Int) : wide_Add.f (wd u).1 (wd u).2 (wd v).1 (wd v).2 = some (wd (u + v)) := by
  rw [wAdd_f (wd_in u).1 (wd_in u).2 (wd_in v).1 (wd_in v).2, wv_wd, wv_wd]
  congr 1
  exact wd_mod (by omega)
theorem neg_w (u : Int) : wide_Neg.f (wd u).1 (wd u).2 = some (wd (-u)) := by
  rw [wNeg_f (wd_in u).1 (wd_in u).2, wv_wd]
  congr 1
  exact wd_mod (by omega)
/-- A number by 2^128 that counts as below 0. -/
def negB (u : Int) : Bool := decide (170141183460469231731687303715884105728 ≤ u % 340282366920938463463374607431768211456)
/-- A sum without its sign. -/
def resS (u : Int) : Int × Int × Bool := if negB u = true then ((wd (-u)).1, (wd (-u)).2, true) else ((wd u).1, (wd u).2, false)
def signD (u : Int) : Int × Int × Int × Int × Int × Int × Int × Int × Bool :=
  if negB u = true then (bigD (-u) 0, bigD (-u) 1, bigD (-u) 2, bigD (-u) 3, bigD (-u) 4, bigD (-u) 5, bigD (-u) 6, bigD (-u) 7, true) else (bigD u 0, bigD u 1, bigD u 2, bigD u 3, bigD u 4, bigD u 5, bigD u 6, bigD u 7, false)
theorem neg7 (u : Int) : bigD u 7 ≥ 32768 ↔ negB u = true := by
  unfold negB bigD
  rw [decide_eq_true_eq]
  constructor <;> intro h <;> omega
theorem bigSigned_f (u : Int) : offertoryref09_Signed.f (bigD u 0) (bigD u 1) (bigD u 2) (bigD u 3) (bigD u 4) (bigD u 5) (bigD u 6) (bigD u 7) = some (signD u) := by
  unfold offertoryref09_Signed.f signD
  by_cases h : negB u = true
  · rw [if_pos ((neg7 u).2 h), if_pos h, bigNeg_f]; rfl
  · rw [if_neg (fun x => h ((neg7 u).1 x)), if_neg h]
theorem signWide (u : Int) : (offertoryref09_Big_Wide.f (signD u).1 (signD u).2.1 (signD u).2.2.1 (signD u).2.2.2.1 (signD u).2.2.2.2.1 (signD u).2.2.2.2.2.1 (signD u).2.2.2.2.2.2.1 (signD u).2.2.2.2.2.2.2.1) = some ((resS u).1, (resS u).2.1) := by
  unfold signD resS
  split
  · exact bigWide_f (-u)
  · exact bigWide_f u
theorem signBool (u : Int) : (signD u).2.2.2.2.2.2.2.2 = (resS u).2.2 := by unfold signD resS; split <;> rfl
theorem drop_get {l : List Int} {i : Nat} (h : i < l.length) : l.drop i = l.getD i 0 :: l.drop (i + 1) := by
  rw [List.drop_eq_getElem_cons h]
  simp [List.getD, List.getElem?_eq_getElem h]
/-- The rest of two lists is one. -/
theorem drop_eq {a b : List Int} {i : Nat} (ha : i < a.length) (hb : i < b.length) : a.drop i = b.drop i ↔ a.getD i 0 = b.getD i 0 ∧ a.drop (i + 1) = b.drop (i + 1) := by
  rw [List.drop_eq_getElem_cons ha, List.drop_eq_getElem_cons hb]
  rw [List.cons.injEq]
  simp only [List.getD, List.getElem?_eq_getElem ha, List.getElem?_eq_getElem hb, Option.getD_some]
/-- The stats beside the bins are one. -/
def restB (c1 s1 t1 q1 r1 : Int) (b1 : Bool) (c2 s2 t2 q2 r2 : Int) (b2 : Bool) : Bool := decide (c1 = c2) && ((s1 == s2 && t1 == t2) && ((q1 == q2 && r1 == r2) && (b1 == b2)))
def sameB (l1 : List Int) (c1 s1 t1 q1 r1 : Int) (b1 : Bool) (l2 : List Int) (c2 s2 t2 q2 r2 : Int) (b2 : Bool) : Bool := decide (l1 = l2) && restB c1 s1 t1 q1 r1 b1 c2 s2 t2 q2 r2 b2
theorem rest_f (c1 s1 t1 q1 r1 : Int) (b1 : Bool) (c2 s2 t2 q2 r2 : Int) (b2 : Bool) :
    (if c1 = c2 then (if (s1 == s2 && (t1 == t2)) = true then (if (q1 == q2 && (r1 == r2)) = true then (some (b1 == b2)) else (some false)) else (some false)) else (some false)) = some (restB c1 s1 t1 q1 r1 b1 c2 s2 t2 q2 r2 b2) := by
  unfold restB
  by_cases h : c1 = c2
  · rw [if_pos h, decide_eq_true h, Bool.true_and]
    cases (s1 == s2 && t1 == t2)
    · rfl
    · cases (q1 == q2 && r1 == r2) <;> rfl
  · rw [if_neg h, decide_eq_false h]; rfl
theorem refSame_l0 (l1 : List Int) (c1 s1 t1 q1 r1 : Int) (b1 : Bool) (l2 : List Int) (c2 s2 t2 q2 r2 : Int) (b2 : Bool) (hl : l1.length = l2.length) (hm : l1.length ≤ 9223372036854775806) : ∀ d i : Nat, i + d = l1.length →
    Ev (fun k => offertoryref09_Same.l0 k (i : Int) l1 c1 s1 t1 q1 r1 b1 l2 c2 s2 t2 q2 r2 b2) (decide (l1.drop i = l2.drop i) && restB c1 s1 t1 q1 r1 b1 c2 s2 t2 q2 r2 b2) := by
  intro d
  induction d with
  | zero =>
    intro i hi
    refine Ev.succ ?_
    simp only [offertoryref09_Same.l0]
    refine Ev.neg (by omega) ?_
    rw [List.drop_eq_nil_of_le (by omega), List.drop_eq_nil_of_le (by omega)]
    simp only [rest_f]
    exact Ev.some_ rfl
  | succ d ih =>
    intro i hi
    refine Ev.succ ?_
    simp only [offertoryref09_Same.l0, rd_nat]
    refine Ev.pos (by omega) (Ev.pos (by omega) (Ev.pos (by omega) ?_))
    have he := drop_eq (a := l1) (b := l2) (i := i) (by omega) (by omega)
    refine Ev.if_ (fun h => ?_) (fun h => Ev.some_ ?_)
    · rw [w64 (by omega)]
      have := ih (i + 1) (by omega)
      rw [show decide (l1.drop i = l2.drop i) = decide (l1.drop (i + 1) = l2.drop (i + 1)) from decide_eq_decide.2 (by rw [he]; exact ⟨fun x => x.2, fun x => ⟨h, x⟩⟩)]
      exact this
    · rw [decide_eq_false, Bool.false_and]
      rw [he]
      exact fun x => h x.1
theorem refSame_f (l1 : List Int) (c1 s1 t1 q1 r1 : Int) (b1 : Bool) (l2 : List Int) (c2 s2 t2 q2 r2 : Int) (b2 : Bool) (hm : l1.length ≤ 9223372036854775806) :
    Ev (fun k => offertoryref09_Same.f k l1 c1 s1 t1 q1 r1 b1 l2 c2 s2 t2 q2 r2 b2) (sameB l1 c1 s1 t1 q1 r1 b1 l2 c2 s2 t2 q2 r2 b2) := by
  unfold offertoryref09_Same.f
  refine Ev.if_ (fun h => ?_) (fun h => Ev.some_ ?_)
  · have := refSame_l0 l1 c1 s1 t1 q1 r1 b1 l2 c2 s2 t2 q2 r2 b2 (by omega) hm l1.length 0 (by omega)
    rw [List.drop_zero, List.drop_zero] at this
    exact this
  · unfold sameB
    rw [decide_eq_false, Bool.false_and]
    rintro rfl
    exact h rfl
theorem sameB_self (l : List Int) (c s t q r : Int) (b : Bool) : sameB l c s t q r b l c s t q r b = true := by simp [sameB, restB]
end Go.Proofs.Yticihbccflflfaa.Plain
