/- Whether stats are one: the program's answer and the document's. -/
import Derived.Test.YtdpekjffjobabaaPAllx12

import Derived.Test.YtdpekjffjobabaaBase
namespace Go.Proofs.Ytdpekjffjobabaa.Plain
open Go.RowKit Go.Proofs.Ytdpekjffjobabaa.PAll Go.Proofs.Ytdpekjffjobabaa.Opn Go.Proofs.Ytdpekjffjobabaa.Base Go.Proofs.YtdpekjffjobabaaW.PrintWords Go.Proofs.YtdpekjffjobabaaW.PrintLast Go.Proofs.YtdpekjffjobabaaW.PrintMore
set_option linter.unusedVariables false
set_option linter.unusedSimpArgs false
set_option maxRecDepth 100000 in
theorem awake_f : Ev (fun k => offertorylaw13_awake.f k) true := Ev.of (k := 40) (fun k => offertorylaw13_awake.mono k) (by decide +kernel)
/-- The rest of two lists is one. -/
theorem drop_eq {a b : List Int} {i : Nat} (ha : i < a.length) (hb : i < b.length) : a.drop i = b.drop i ↔ a.getD i 0 = b.getD i 0 ∧ a.drop (i + 1) = b.drop (i + 1) := by
  rw [List.drop_eq_getElem_cons ha, List.drop_eq_getElem_cons hb]
  rw [List.cons.injEq]
  simp only [List.getD, List.getElem?_eq_getElem ha, List.getElem?_eq_getElem hb, Option.getD_some]
theorem eqInts_l0 (a b : List Int) (hl : a.length = b.length) (hm : a.length ≤ 9223372036854775806) : ∀ d i : Nat, i + d = a.length → Ev (fun k => slices_Equal_int_int.l0 k a b (a.length : Int) (i : Int)) (decide (a.drop i = b.drop i)) := by
  intro d
  induction d with
  | zero =>
    intro i hi
    refine Ev.succ ?_
    simp only [slices_Equal_int_int.l0]
    refine Ev.neg (by omega) (Ev.some_ ?_)
    rw [List.drop_eq_nil_of_le (by omega), List.drop_eq_nil_of_le (by omega)]
    rfl
  | succ d ih =>
    intro i hi
    refine Ev.succ ?_
    simp only [slices_Equal_int_int.l0, rd_nat]
    refine Ev.pos (by omega) (Ev.pos (by omega) (Ev.pos (by omega) (Ev.pos (by omega) ?_)))
    have he := drop_eq (a := a) (b := b) (i := i) (by omega) (by omega)
    refine Ev.if_ (fun h => ?_) (fun h => Ev.some_ ?_)
    · rw [w64 (by omega)]
      have := ih (i + 1) (by omega)
      rw [show decide (a.drop i = b.drop i) = decide (a.drop (i + 1) = b.drop (i + 1)) from decide_eq_decide.2 (by rw [he]; exact ⟨fun x => x.2, fun x => ⟨h, x⟩⟩)]
      exact this
    · rw [decide_eq_false]
      rw [he]
      exact fun x => h x.1
theorem eqInts_f (a b : List Int) (hm : a.length ≤ 9223372036854775806) : Ev (fun k => slices_Equal_int_int.f k a b) (decide (a = b)) := by
  unfold slices_Equal_int_int.f
  refine Ev.if_ (fun h => ?_) (fun h => Ev.some_ ?_)
  · have := eqInts_l0 a b (by omega) hm a.length 0 (by omega)
    rw [List.drop_zero, List.drop_zero] at this
    exact this
  · rw [decide_eq_false]
    rintro rfl
    exact h rfl
/-- The stats beside the bins are one. -/
def restB (c1 s1 t1 q1 r1 : Int) (b1 : Bool) (c2 s2 t2 q2 r2 : Int) (b2 : Bool) : Bool := decide (c1 = c2) && ((s1 == s2 && t1 == t2) && ((q1 == q2 && r1 == r2) && (b1 == b2)))
def sameB (l1 : List Int) (c1 s1 t1 q1 r1 : Int) (b1 : Bool) (l2 : List Int) (c2 s2 t2 q2 r2 : Int) (b2 : Bool) : Bool := decide (l1 = l2) && restB c1 s1 t1 q1 r1 b1 c2 s2 t2 q2 r2 b2
theorem rest_f (c1 s1 t1 q1 r1 : Int) (b1 : Bool) (c2 s2 t2 q2 r2 : Int) (b2 : Bool) :
    (if c1 = c2 then (if (s1 == s2 && (t1 == t2)) = true then (if (q1 == q2 && (r1 == r2)) = true then (some (b1 == b2)) else (some false)) else (some false)) else (some false)) = some (restB c1 s1 t1 q1 r1 b1 c2 s2 t2 q2 r2 b2) := by
  unfold restB
  by_cases h : c1 = c2
  · rw [if_pos h, decide_eq_true h, Bool.true_and]
    cases (s1 == s2 && t1 == t2)
    · rfl
    · cases (q1 == q2 && r1 == r2) <;> rfl
  · rw [if_neg h, decide_eq_false h]; rfl
theorem same_f (l1 : List Int) (c1 s1 t1 q1 r1 : Int) (b1 : Bool) (l2 : List Int) (c2 s2 t2 q2 r2 : Int) (b2 : Bool) (hm : l1.length ≤ 9223372036854775806) :
    Ev (fun k => stats_Same.f k l1 c1 s1 t1 q1 r1 b1 l2 c2 s2 t2 q2 r2 b2) (sameB l1 c1 s1 t1 q1 r1 b1 l2 c2 s2 t2 q2 r2 b2) := by
  unfold stats_Same.f
  refine Ev.bind (eqInts_f l1 l2 hm) ?_
  simp only [rest_f, sameB]
  refine Ev.if_ (fun h => Ev.some_ ?_) (fun h => Ev.some_ ?_)
  · rw [h]; rfl
  · rw [Bool.eq_false_iff.2 h]; rfl
theorem refSame_l0 (l1 : List Int) (c1 s1 t1 q1 r1 : Int) (b1 : Bool) (l2 : List Int) (c2 s2 t2 q2 r2 : Int) (b2 : Bool) (hl : l1.length = l2.length) (hm : l1.length ≤ 9223372036854775806) : ∀ d i : Nat, i + d = l1.length →
    Ev (fun k => offertoryref09_Same.l0 k (i : Int) l1 c1 s1 t1 q1 r1 b1 l2 c2 s2 t2 q2 r2 b2) (decide (l1.drop i = l2.drop i) && restB c1 s1 t1 q1 r1 b1 c2 s2 t2 q2 r2 b2) := by
  intro d
  induction d with
  | zero =>
    intro i hi
    refine Ev.succ ?_
    simp only [offertoryref09_Same.l0]
    refine Ev.neg (by omega) ?_
    rw [List.drop_eq_nil_of_le (by omega), List.drop_eq_nil_of_le (by omega)]
    simp only [rest_f]
    exact Ev.some_ rfl
  | succ d ih =>
    intro i hi
    refine Ev.succ ?_
    simp only [offertoryref09_Same.l0, rd_nat]
    refine Ev.pos (by omega) (Ev.pos (by omega) (Ev.pos (by omega) ?_))
    have he := drop_eq (a := l1) (b := l2) (i := i) (by omega) (by omega)
    refine Ev.if_ (fun h => ?_) (fun h => Ev.some_ ?_)
    · rw [w64 (by omega)]
      have := ih (i + 1) (by omega)
      rw [show decide (l1.drop i = l2.drop i) = decide (l1.drop (i + 1) = l2.drop (i + 1)) from decide_eq_decide.2 (by rw [he]; exact ⟨fun x => x.2, fun x => ⟨h, x⟩⟩)]
      exact this
    · rw [decide_eq_false, Bool.false_and]
      rw [he]
      exact fun x => h x.1
theorem refSame_f (l1 : List Int) (c1 s1 t1 q1 r1 : Int) (b1 : Bool) (l2 : List Int) (c2 s2 t2 q2 r2 : Int) (b2 : Bool) (hm : l1.length ≤ 9223372036854775806) :
    Ev (fun k => offertoryref09_Same.f k l1 c1 s1 t1 q1 r1 b1 l2 c2 s2 t2 q2 r2 b2) (sameB l1 c1 s1 t1 q1 r1 b1 l2 c2 s2 t2 q2 r2 b2) := by
  unfold offertoryref09_Same.f
  refine Ev.if_ (fun h => ?_) (fun h => Ev.some_ ?_)
  · have := refSame_l0 l1 c1 s1 t1 q1 r1 b1 l2 c2 s2 t2 q2 r2 b2 (by omega) hm l1.length 0 (by omega)
    rw [List.drop_zero, List.drop_zero] at this
    exact this
  · unfold sameB
    rw [decide_eq_false, Bool.false_and]
    rintro rfl
    exact h rfl
theorem sameB_self (l : List Int) (c s t q r : Int) (b : Bool) : sameB l c s t q r b l c s t q r b = true := by simp [sameB, restB]
end Go.Proofs.Ytdpekjffjobabaa.Plain
