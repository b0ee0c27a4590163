/- The laws' own both comes to what the ledger's ways come to, in plain numbers. -/
import Derived.Test.YticihbccflflfaaPlainLedger2
namespace Go.Proofs.Yticihbccflflfaa.Plain
open Go.RowKit Go.Proofs.Yticihbccflflfaa.PAll Go.Proofs.Yticihbccflflfaa.Opn Go.Proofs.Yticihbccflflfaa.Base Go.Proofs.YticihbccflflfaaW.PrintWords Go.Proofs.YticihbccflflfaaW.PrintLast Go.Proofs.YticihbccflflfaaW.PrintMore
set_option linter.unusedVariables false
set_option linter.unusedSimpArgs false
theorem lwOk_eq (n : Int) : lwOk n = okC n := rfl
theorem opB_true (x y : Int) : opB true x y = opS x y := rfl
theorem opB_false (x y : Int) : opB false x y = opA x y := by
  unfold opB opA wrap64
  rw [if_neg (by decide), IntKind.wrap_u64, IntKind.wrap_u64, IntKind.wrap_u64]
  omega
theorem chk_all : ∀ xs ys : List Int, xs.length = ys.length → chkB xs ys = (xs.all okC && ys.all okC)
  | [], [], _ => rfl
  | x :: xs, y :: ys, h => by
    have ih := chk_all xs ys (by simpa using h)
    show (lwOk x && (lwOk y && chkB xs ys)) = _
    rw [ih, lwOk_eq, lwOk_eq, List.all_cons, List.all_cons]
    cases okC x <;> cases okC y <;> cases xs.all okC <;> rfl
theorem bld_all (t : Bool) : ∀ xs ys : List Int, bldB t xs ys = (List.zipWith (opB t) xs ys).all okC
  | [], _ => by simp [bldB]
  | _ :: _, [] => by simp [bldB]
  | x :: xs, y :: ys => by
    show (lwOk (opB t x y) && bldB t xs ys) = _
    rw [bld_all t xs ys, List.zipWith_cons_cons, List.all_cons, lwOk_eq]
def og (t : Bool) (a b : Int) : Int := if t = true then a - b else a + b
def oc (t : Bool) (a b : Int) : Int := if t = true then opS a b else opA a b
theorem oc_eq (t : Bool) : opB t = oc t := by
  funext x y
  cases t
  · exact opB_false x y
  · rfl
theorem negIf_f (b : Bool) (u : Int) : negIf b (digs u) = some (digs (sgn b u)) := by
  unfold negIf sgn
  cases b
  · rfl
  · exact bigNeg_f u
theorem ofw (u : Int) : offertoryref09_Of.f (wd u).1 (wd u).2 = some (digs u) := by
  rw [of_f (wd_in u).1 (wd_in u).2, wv_wd]
  congr 1
  exact digs_eq (by omega)
theorem resS_eq {u v : Int} (h : u % 340282366920938463463374607431768211456 = v % 340282366920938463463374607431768211456) : resS u = resS v := by
  unfold resS negB
  rw [h, wd_mod h, wd_mod (show (-u) % 340282366920938463463374607431768211456 = (-v) % 340282366920938463463374607431768211456 by omega)]
theorem finB_f (bins : List Int) (cnt u1 q1 : Int) (b1 : Bool) (u2 q2 : Int) (b2 t : Bool) : finB bins cnt (wd u1).1 (wd u1).2 (wd q1).1 (wd q1).2 b1 (wd u2).1 (wd u2).2 (wd q2).1 (wd q2).2 b2 t =
    some (bins, cnt, (resS (og t (sgn b1 u1) (sgn b2 u2))).1, (resS (og t (sgn b1 u1) (sgn b2 u2))).2.1, (wd (og t q1 q2)).1, (wd (og t q1 q2)).2, (resS (og t (sgn b1 u1) (sgn b2 u2))).2.2, 0) := by
  unfold finB
  rw [ofw, ofw, ofw]
  simp only [Option.bind_some]
  rw [negIf_f, negIf_f, negIf_f]
  simp only [Option.bind_some, digs]
  rw [bigAdd_f]
  simp only [Option.bind_some, digs]
  rw [bigSigned_f]
  simp only [Option.bind_some]
  rw [signWide]
  simp only [Option.bind_some]
  rw [ofw]
  simp only [Option.bind_some, digs]
  rw [bigAdd_f]
  simp only [Option.bind_some, digs]
  rw [bigWide_f, signBool]
  simp only [Option.bind_some]
  have e1 : resS (sgn b1 u1 + sgn (b2 != t) u2) = resS (og t (sgn b1 u1) (sgn b2 u2)) := by
    congr 1
    unfold og sgn
    cases t <;> cases b2 <;> simp <;> omega
  have e2 : q1 + sgn t q2 = og t q1 q2 := by
    unfold og sgn
    cases t <;> simp <;> omega
  rw [e1, e2]
theorem both_f (t : Bool) (l1 : List Int) (c1 u1 q1 : Int) (b1 : Bool) (l2 : List Int) (c2 u2 q2 : Int) (b2 : Bool) (hm : l1.length ≤ 17592186044000) :
    offertorylaw29_both.f l1 c1 (wd u1).1 (wd u1).2 (wd q1).1 (wd q1).2 b1 l2 c2 (wd u2).1 (wd u2).2 (wd q2).1 (wd q2).2 b2 t = some (wayV (oc t) (og t) l1 c1 u1 q1 b1 l2 c2 u2 q2 b2) := by
  unfold offertorylaw29_both.f wayV
  by_cases hl : l1.length = l2.length
  · rw [if_pos hl, if_pos hl, if_pos hm, chk_all _ _ (by simp [hl]), bld_all, oc_eq]
    have e1 : ((c1 :: l1).all okC && (c2 :: l2).all okC) = (rightB l1 c1 && rightB l2 c2) := by
      unfold rightB
      rw [List.all_cons, List.all_cons]
    have e2 : (List.zipWith (oc t) (c1 :: l1) (c2 :: l2)).all okC = rightB (zipO (oc t) l1 l2) (oc t c1 c2) := by
      unfold rightB zipO
      rw [List.zipWith_cons_cons, List.all_cons]
    rw [e1, e2]
    by_cases h1 : (rightB l1 c1 && rightB l2 c2) = true
    · rw [if_pos h1, if_pos h1]
      by_cases h2 : rightB (zipO (oc t) l1 l2) (oc t c1 c2) = true
      · rw [if_pos h2, if_pos h2, finB_f]
        rfl
      · rw [if_neg h2, if_neg h2]
    · rw [if_neg h1, if_neg h1]
  · rw [if_neg hl, if_neg hl]
theorem oc_false : oc false = opA := by funext x y; rfl
theorem oc_true : oc true = opS := by funext x y; rfl
theorem og_false : og false = fun a b => a + b := by funext x y; rfl
theorem og_true : og true = fun a b => a - b := by funext x y; rfl
theorem wide_of {hi lo : Int} (h : (Lit.int .u64 hi).wf = true) (l : (Lit.int .u64 lo).wf = true) : ∃ u, (wd u).1 = hi ∧ (wd u).2 = lo := ⟨wv hi lo, by rw [wd_wv (u64_of h) (u64_of l)], by rw [wd_wv (u64_of h) (u64_of l)]⟩
theorem wayV_len (op og : Int → Int → Int) (l1 : List Int) (c1 u1 q1 : Int) (b1 : Bool) (l2 : List Int) (c2 u2 q2 : Int) (b2 : Bool) : (wayV op og l1 c1 u1 q1 b1 l2 c2 u2 q2 b2).1.length ≤ l1.length := by
  unfold wayV
  split
  · split
    · split
      · show (zipO op l1 l2).length ≤ _
        unfold zipO
        rw [List.length_zipWith]
        omega
      · exact Nat.zero_le _
    · exact Nat.zero_le _
  · exact Nat.zero_le _
theorem wayV_wide (op og : Int → Int → Int) (l1 : List Int) (c1 u1 q1 : Int) (b1 : Bool) (l2 : List Int) (c2 u2 q2 : Int) (b2 : Bool) : ∃ u q, (wayV op og l1 c1 u1 q1 b1 l2 c2 u2 q2 b2).2.2.1 = (wd u).1 ∧ (wayV op og l1 c1 u1 q1 b1 l2 c2 u2 q2 b2).2.2.2.1 = (wd u).2 ∧ (wayV op og l1 c1 u1 q1 b1 l2 c2 u2 q2 b2).2.2.2.2.1 = (wd q).1 ∧ (wayV op og l1 c1 u1 q1 b1 l2 c2 u2 q2 b2).2.2.2.2.2.1 = (wd q).2 := by
  unfold wayV
  split
  · split
    · split
      · unfold resS
        split
        · exact ⟨_, _, rfl, rfl, rfl, rfl⟩
        · exact ⟨_, _, rfl, rfl, rfl, rfl⟩
      · exact ⟨0, 0, rfl, rfl, rfl, rfl⟩
    · exact ⟨0, 0, rfl, rfl, rfl, rfl⟩
  · exact ⟨0, 0, rfl, rfl, rfl, rfl⟩
end Go.Proofs.Yticihbccflflfaa.Plain
