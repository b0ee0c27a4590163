/- LedgerSubs, the plain law. -/
import Derived.Test.YticihbccflflfaaPAllx2
import Derived.Test.YticihbccflflfaaPAllx4
import Derived.Test.YticihbccflflfaaPAllx6
import Derived.Test.YticihbccflflfaaPAllx8
import Derived.Test.YticihbccflflfaaPAllx9
import Derived.Test.YticihbccflflfaaPAllx10
import Derived.Test.YticihbccflflfaaPAllx11

import Derived.Test.YticihbccflflfaaPlainLedgerBoth
namespace Go.Proofs.Yticihbccflflfaa.Pure
open Go.RowKit Go.Proofs.Yticihbccflflfaa.PAll Go.Proofs.Yticihbccflflfaa.Opn Go.Proofs.Yticihbccflflfaa.Base Go.Proofs.Yticihbccflflfaa.Plain Go.Proofs.YticihbccflflfaaW.PrintWords Go.Proofs.YticihbccflflfaaW.PrintLast Go.Proofs.YticihbccflflfaaW.PrintMore
set_option linter.unusedVariables false
set_option linter.unusedSimpArgs false
theorem LedgerSubs (l0_0 : List Int) (a0_1 : Int) (a0_2 : Int) (a0_3 : Int) (a0_4 : Int) (a0_5 : Int) (a0_6 : Bool) (l1_0 : List Int) (a1_1 : Int) (a1_2 : Int) (a1_3 : Int) (a1_4 : Int) (a1_5 : Int) (a1_6 : Bool) (w0_0 : (SliceOk 8 (fun n => (Lit.int .i64 n).wf = true)) l0_0) (w0_1 : (Lit.int .i64 a0_1).wf = true) (w0_2 : (Lit.int .u64 a0_2).wf = true) (w0_3 : (Lit.int .u64 a0_3).wf = true) (w0_4 : (Lit.int .u64 a0_4).wf = true) (w0_5 : (Lit.int .u64 a0_5).wf = true) (w1_0 : (SliceOk 8 (fun n => (Lit.int .i64 n).wf = true)) l1_0) (w1_1 : (Lit.int .i64 a1_1).wf = true) (w1_2 : (Lit.int .u64 a1_2).wf = true) (w1_3 : (Lit.int .u64 a1_3).wf = true) (w1_4 : (Lit.int .u64 a1_4).wf = true) (w1_5 : (Lit.int .u64 a1_5).wf = true) : ∃ k, offertorylaw29_LedgerSubs.f k l0_0 a0_1 a0_2 a0_3 a0_4 a0_5 a0_6 l1_0 a1_1 a1_2 a1_3 a1_4 a1_5 a1_6 = some true := by
  obtain ⟨u1, rfl, rfl⟩ := wide_of w0_2 w0_3
  obtain ⟨q1, rfl, rfl⟩ := wide_of w0_4 w0_5
  obtain ⟨u2, rfl, rfl⟩ := wide_of w1_2 w1_3
  obtain ⟨q2, rfl, rfl⟩ := wide_of w1_4 w1_5
  have h1 := w0_0.1
  have h2 := w1_0.1
  refine Ev.rounds ?_
  unfold offertorylaw29_LedgerSubs.f
  have hb := both_f true l0_0 a0_1 u1 q1 a0_6 l1_0 a1_1 u2 q2 a1_6 (by omega)
  rw [oc_true, og_true] at hb
  refine Ev.bind (lsub_f l0_0 a0_1 u1 q1 a0_6 l1_0 a1_1 u2 q2 a1_6 (by omega) (by omega)) (Ev.bind0 hb (Ev.bind awake_f (Ev.pos (by first | rfl | trivial) (Ev.pos rfl ?_))))
  refine Ev.bind (refSame_f _ _ _ _ _ _ _ _ _ _ _ _ _ _ (Nat.le_trans (wayV_len _ _ _ _ _ _ _ _ _ _ _ _) (by omega))) (Ev.some_ (sameB_self _ _ _ _ _ _ _))
end Go.Proofs.Yticihbccflflfaa.Pure
