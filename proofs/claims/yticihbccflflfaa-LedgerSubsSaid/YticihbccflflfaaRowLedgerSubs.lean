/- The statement LedgerSubs, as given, out of the plain law (PureLedgerSubs) and the walk. No condition beyond the row's own. -/
import Derived.Test.YticihbccflflfaaRows
import Derived.Test.YticihbccflflfaaPAllx11
import Derived.Test.YticihbccflflfaaPureLedgerSubs
import Derived.Test.YticihbccflflfaaOpen
import Derived.WalkKit
import Derived.ProofKit
import Derived.OpenShut
import Derived.ShutString
import Derived.ChangeOld
import Derived.Below
import Derived.SizedLaws
import Derived.Carry
namespace Go.Proofs.Yticihbccflflfaa.ledgerSubs
open Go.ChangeShapes Go.WideShapes Go.ChangeAt Go.RowKit Go.Proofs.YticihbccflflfaaW.PrintWords Go.Proofs.Yticihbccflflfaa.Opn Go.Proofs.Yticihbccflflfaa.PAll
open Go.ChangeMaps (open_string shut_string)
set_option linter.unusedVariables false
theorem own : ownKnob Try.prog.godebug = none := by kernel_rfl
theorem laidOut : laidOutB Try.prog = true := by kernel_rfl
theorem opn0 : Opn Try.prog 27 (Kd.pair (Kd.slice 3 (Kd.int .i64)) (Kd.pair (Kd.int .i64) (Kd.pair (Kd.pair (Kd.int .u64) (Kd.int .u64)) (Kd.pair (Kd.pair (Kd.int .u64) (Kd.int .u64)) Kd.bool)))) (fun v => (SliceOk 8 (fun n => (Lit.int .i64 n).wf = true)) v.1 ∧ (fun v => (fun n => (Lit.int .i64 n).wf = true) v.1 ∧ (fun v => (fun v => (fun n => (Lit.int .u64 n).wf = true) v.1 ∧ (fun n => (Lit.int .u64 n).wf = true) v.2) v.1 ∧ (fun v => (fun v => (fun n => (Lit.int .u64 n).wf = true) v.1 ∧ (fun n => (Lit.int .u64 n).wf = true) v.2) v.1 ∧ (fun _ => True) v.2) v.2) v.2) v.2) :=
  (opn_struct Try.underlying27 (by kernel_rfl) (opnL_cons (opn_slice (bytes := 8) Try.underlying22 (by kernel_rfl) (by kernel_rfl) 3 (opn_int Try.underlying3 (by kernel_rfl))) (opnL_cons (opn_int Try.underlying3 (by kernel_rfl)) (opnL_cons (opn_struct Try.underlying25 (by kernel_rfl) (opnL_cons (opn_int Try.underlying23 (by kernel_rfl)) (opnL_one (opn_int Try.underlying23 (by kernel_rfl))))) (opnL_cons (opn_struct Try.underlying25 (by kernel_rfl) (opnL_cons (opn_int Try.underlying23 (by kernel_rfl)) (opnL_one (opn_int Try.underlying23 (by kernel_rfl))))) (opnL_one (opn_bool Try.underlying4 (by kernel_rfl))))))))
theorem opn1 : Opn Try.prog 27 (Kd.pair (Kd.slice 3 (Kd.int .i64)) (Kd.pair (Kd.int .i64) (Kd.pair (Kd.pair (Kd.int .u64) (Kd.int .u64)) (Kd.pair (Kd.pair (Kd.int .u64) (Kd.int .u64)) Kd.bool)))) (fun v => (SliceOk 8 (fun n => (Lit.int .i64 n).wf = true)) v.1 ∧ (fun v => (fun n => (Lit.int .i64 n).wf = true) v.1 ∧ (fun v => (fun v => (fun n => (Lit.int .u64 n).wf = true) v.1 ∧ (fun n => (Lit.int .u64 n).wf = true) v.2) v.1 ∧ (fun v => (fun v => (fun n => (Lit.int .u64 n).wf = true) v.1 ∧ (fun n => (Lit.int .u64 n).wf = true) v.2) v.1 ∧ (fun _ => True) v.2) v.2) v.2) v.2) :=
  (opn_struct Try.underlying27 (by kernel_rfl) (opnL_cons (opn_slice (bytes := 8) Try.underlying22 (by kernel_rfl) (by kernel_rfl) 3 (opn_int Try.underlying3 (by kernel_rfl))) (opnL_cons (opn_int Try.underlying3 (by kernel_rfl)) (opnL_cons (opn_struct Try.underlying25 (by kernel_rfl) (opnL_cons (opn_int Try.underlying23 (by kernel_rfl)) (opnL_one (opn_int Try.underlying23 (by kernel_rfl))))) (opnL_cons (opn_struct Try.underlying25 (by kernel_rfl) (opnL_cons (opn_int Try.underlying23 (by kernel_rfl)) (opnL_one (opn_int Try.underlying23 (by kernel_rfl))))) (opnL_one (opn_bool Try.underlying4 (by kernel_rfl))))))))
set_option maxRecDepth 100000 in
theorem lifted (os : Os) (started : os.Started) (H : Type) (enc : TypeId × Value → H) :
    ReturnsInHanded {} Try.checked os 4 .any (Rows.ledgerSubsSpec.pre6 enc Try.prog Try.f4 Rows.ledgerSubsRow.domain false) (Rows.ledgerSubsSpec.post enc Try.prog Try.f4 false true false false) := by
  refine returnsInHanded_of_change_sized (C := Try.checked) own started (by kernel_rfl) Try.func4
    (ChangeSpec.witness6 (enc := enc) (C := Try.checked) false ⟨#[], #[.agg #[.slice none 0 0, .int .i64 0, .int .u64 0, .int .u64 0, .int .u64 0, .int .u64 0, .bool false], .agg #[.slice none 0 0, .int .i64 0, .int .u64 0, .int .u64 0, .int .u64 0, .int .u64 0, .bool false]], []⟩ 8 (by kernel_rfl) (by kernel_rfl) (by kernel_rfl) (by kernel_rfl)) ?_
  intro W base args ds gs before hval0 hW hcnd hsz0 _
  have hsz : (DataW.weightsEach Try.prog (Try.f4.params.toList ++ Rows.ledgerSubsSpec.plain.varTypes Try.prog) (ds ++ gs)).all (· ≤ reachBytes) = true := hsz0
  have hval : ∀ (j : Nat) t v, Try.f4.params[j]? = some t → args[j]? = some v → Value.okWide Try.prog W .any base t v := hval0
  have hW' := hW
  obtain ⟨p, q, hA0, hV, rfl, hfz, hnd⟩ := hW
  have hA : DataW.TrodAll enc Try.prog W 0 (fun _ => true) true Try.f4.params.toList args.toList ds p := hA0
  rw [Try.params4] at hA hval hsz
  obtain ⟨v0, vs0, d0, ds0, p0, q0, hargs, rfl, rfl, h0, r0⟩ := trodAll_cons hA
  obtain ⟨v1, vs1, d1, ds1, p1, q1, rfl, rfl, rfl, h1, r1⟩ := trodAll_cons r0
  obtain ⟨rfl, rfl, rfl⟩ := trodAll_nil r1
  obtain rfl : args = #[v0, v1] := by cases args; simp_all
  obtain ⟨rfl, rfl⟩ := trodVars_none hV
  have kk0 := h0
  have lt0 := trod_old h0
  obtain ⟨x0, hx0, ok0⟩ := opn0.arg h0 hsz (j := 0) rfl rfl
  obtain ⟨cs0, rfl, _⟩ := okWide_struct Try.underlying27 (hval 0 27 v0 rfl rfl)
  generalize hcs0 : (Value.agg cs0).cells.toList = cl0 at hx0
  obtain ⟨_, _, rfl, ⟨A0_0, c0_0, rfl, hl0_0, hc0_0⟩, ⟨_, _, rfl, rfl, ⟨_, _, rfl, ⟨_, _, rfl, rfl, rfl⟩, ⟨_, _, rfl, ⟨_, _, rfl, rfl, rfl⟩, rfl⟩⟩⟩⟩ := hx0
  obtain hag0 := agg_of hcs0
  clear hcs0
  have hv0 : Value.agg cs0 = .agg #[.slice A0_0 (x0.1).length c0_0, .int .i64 x0.2.1, .int .u64 x0.2.2.1.1, .int .u64 x0.2.2.1.2, .int .u64 x0.2.2.2.1.1, .int .u64 x0.2.2.2.1.2, .bool x0.2.2.2.2] := hag0
  clear hag0
  rw [hv0]
  have kk1 := h1
  have lt1 := trod_old h1
  obtain ⟨x1, hx1, ok1⟩ := opn1.arg h1 hsz (j := 1) rfl rfl
  obtain ⟨cs1, rfl, _⟩ := okWide_struct Try.underlying27 (hval 1 27 v1 rfl rfl)
  generalize hcs1 : (Value.agg cs1).cells.toList = cl1 at hx1
  obtain ⟨_, _, rfl, ⟨A1_0, c1_0, rfl, hl1_0, hc1_0⟩, ⟨_, _, rfl, rfl, ⟨_, _, rfl, ⟨_, _, rfl, rfl, rfl⟩, ⟨_, _, rfl, ⟨_, _, rfl, rfl, rfl⟩, rfl⟩⟩⟩⟩ := hx1
  obtain hag1 := agg_of hcs1
  clear hcs1
  have hv1 : Value.agg cs1 = .agg #[.slice A1_0 (x1.1).length c1_0, .int .i64 x1.2.1, .int .u64 x1.2.2.1.1, .int .u64 x1.2.2.1.2, .int .u64 x1.2.2.2.1.1, .int .u64 x1.2.2.2.1.2, .bool x1.2.2.2.2] := hag1
  clear hag1
  rw [hv1]
  clear hA0 hval0 hsz0 hsz
  obtain ⟨k, h⟩ := Pure.LedgerSubs _ _ _ _ _ _ _ _ _ _ _ _ _ _ ok0.1 ok0.2.1 ok0.2.2.1.1 ok0.2.2.1.2 ok0.2.2.2.1.1 ok0.2.2.2.1.2 ok1.1 ok1.2.1 ok1.2.2.1.1 ok1.2.2.1.2 ok1.2.2.2.1.1 ok1.2.2.2.1.2
  refine (offertorylaw29_LedgerSubs.calls k A0_0 c0_0 x0.1 x0.2.1 x0.2.2.1.1 x0.2.2.1.2 x0.2.2.2.1.1 x0.2.2.2.1.2 x0.2.2.2.2 A1_0 c1_0 x1.1 x1.2.1 x1.2.2.1.1 x1.2.2.1.2 x1.2.2.2.1.1 x1.2.2.2.1.2 x1.2.2.2.2 true W hc0_0 hl0_0 hc1_0 hl1_0 h).mono fun e W' ⟨he, bel⟩ => ?_
  subst he
  rw [← hv0]
  rw [← hv1]
  exact ⟨_, rfl, _, _, _, [], _, [], hW', trodAll_mk1 (shut_bool Try.underlying4 _), (trodAll_cons_mk (Below.trod laidOut (by kernel_rfl) (of_decide_eq_true (by kernel_rfl)) kk0 bel lt0) (trodAll_cons_mk (Below.trod laidOut (by kernel_rfl) (of_decide_eq_true (by kernel_rfl)) kk1 bel lt1) trodAll_mk0)), rfl, bel.frame _, fun h => by cases h⟩
theorem over : Rows.ledgerSubsRow.holds Try.pinned (OpenSpec.ofChange Rows.ledgerSubsSpec) :=
  OpenClaim.holds_of_wide 4 Try.f4 rfl rfl rfl rfl rfl rfl rfl ⟨rfl, rfl, rfl, rfl, rfl⟩ rfl rfl rfl rfl rfl (by kernel_rfl) Try.func4 (by kernel_rfl)
    (of_decide_eq_true (by kernel_rfl)) (by unfold Func.isWrapper; first | (rw [if_pos (by decide +kernel)]; kernel_rfl) | (rw [if_neg (by decide +kernel)]; exact ⟨rfl, rfl⟩))
    (fun os started H enc _ => lifted os started H enc)
theorem proved : Rows.LedgerSubsSaid := over
#print axioms proved
end Go.Proofs.Yticihbccflflfaa.ledgerSubs
namespace Go.Proofs.Yticihbccflflfaa
/-- The row, under a short name, for the claim. -/
theorem ledgerSubs_holds : Rows.LedgerSubsSaid := ledgerSubs.proved
end Go.Proofs.Yticihbccflflfaa
