/- The statement LedgerSums, as given, out of the plain law (PureLedgerSums) and the walk. No condition beyond the row's own. -/
import Derived.Test.YticihbccflflfaaRows
import Derived.Test.YticihbccflflfaaPAllx12
import Derived.Test.YticihbccflflfaaPureLedgerSums
import Derived.Test.YticihbccflflfaaOpen
import Derived.WalkKit
import Derived.ProofKit
import Derived.OpenShut
import Derived.ShutString
import Derived.ChangeOld
import Derived.Below
import Derived.SizedLaws
import Derived.Carry
namespace Go.Proofs.Yticihbccflflfaa.ledgerSums
open Go.ChangeShapes Go.WideShapes Go.ChangeAt Go.RowKit Go.Proofs.YticihbccflflfaaW.PrintWords Go.Proofs.Yticihbccflflfaa.Opn Go.Proofs.Yticihbccflflfaa.PAll
open Go.ChangeMaps (open_string shut_string)
set_option linter.unusedVariables false
theorem own : ownKnob Try.prog.godebug = none := by kernel_rfl
theorem laidOut : laidOutB Try.prog = true := by kernel_rfl
theorem opn1 : Opn Try.prog 34 (Kd.slice 27 k27) (SliceOk 72 (fun b : S27 => (fun v => (SliceOk 8 (fun n => (Lit.int .i64 n).wf = true)) v.1 ∧ (fun v => (fun n => (Lit.int .i64 n).wf = true) v.1 ∧ (fun v => (fun b : S25 => (fun v => (fun n => (Lit.int .u64 n).wf = true) v.1 ∧ (fun n => (Lit.int .u64 n).wf = true) v.2) ((b.f0, b.f1))) v.1 ∧ (fun v => (fun b : S25 => (fun v => (fun n => (Lit.int .u64 n).wf = true) v.1 ∧ (fun n => (Lit.int .u64 n).wf = true) v.2) ((b.f0, b.f1))) v.1 ∧ (fun _ => True) v.2) v.2) v.2) v.2) ((b.f0, (b.f1, (b.f2, (b.f3, b.f4))))))) :=
  (opn_slice (bytes := 72) Try.underlying34 (by kernel_rfl) (by kernel_rfl) 27 (show Opn Try.prog 27 k27 _ from opn_iso (opn_struct Try.underlying27 (by kernel_rfl) (opnL_cons (opn_slice (bytes := 8) Try.underlying22 (by kernel_rfl) (by kernel_rfl) 3 (opn_int Try.underlying3 (by kernel_rfl))) (opnL_cons (opn_int Try.underlying3 (by kernel_rfl)) (opnL_cons (show Opn Try.prog 25 k25 _ from opn_iso (opn_struct Try.underlying25 (by kernel_rfl) (opnL_cons (opn_int Try.underlying23 (by kernel_rfl)) (opnL_one (opn_int Try.underlying23 (by kernel_rfl))))) (fun b : S25 => (b.f0, b.f1)) (fun v => ⟨v.1, v.2⟩) (fun _ => rfl)) (opnL_cons (show Opn Try.prog 25 k25 _ from opn_iso (opn_struct Try.underlying25 (by kernel_rfl) (opnL_cons (opn_int Try.underlying23 (by kernel_rfl)) (opnL_one (opn_int Try.underlying23 (by kernel_rfl))))) (fun b : S25 => (b.f0, b.f1)) (fun v => ⟨v.1, v.2⟩) (fun _ => rfl)) (opnL_one (opn_bool Try.underlying4 (by kernel_rfl)))))))) (fun b : S27 => (b.f0, (b.f1, (b.f2, (b.f3, b.f4))))) (fun v => ⟨v.1, v.2.1, v.2.2.1, v.2.2.2.1, v.2.2.2.2⟩) (fun _ => rfl)))
set_option maxRecDepth 100000 in
theorem lifted (os : Os) (started : os.Started) (H : Type) (enc : TypeId × Value → H) :
    ReturnsInHanded {} Try.checked os 5 .any (Rows.ledgerSumsSpec.pre6 enc Try.prog Try.f5 Rows.ledgerSumsRow.domain false) (Rows.ledgerSumsSpec.post enc Try.prog Try.f5 false true false false) := by
  refine returnsInHanded_of_change_sized (C := Try.checked) own started (by kernel_rfl) Try.func5
    (ChangeSpec.witness6 (enc := enc) (C := Try.checked) false ⟨#[], #[.int .i64 0, .slice none 0 0], []⟩ 8 (by kernel_rfl) (by kernel_rfl) (by kernel_rfl) (by kernel_rfl)) ?_
  intro W base args ds gs before hval0 hW hcnd hsz0 _
  have hsz : (DataW.weightsEach Try.prog (Try.f5.params.toList ++ Rows.ledgerSumsSpec.plain.varTypes Try.prog) (ds ++ gs)).all (· ≤ reachBytes) = true := hsz0
  have hval : ∀ (j : Nat) t v, Try.f5.params[j]? = some t → args[j]? = some v → Value.okWide Try.prog W .any base t v := hval0
  have hW' := hW
  obtain ⟨p, q, hA0, hV, rfl, hfz, hnd⟩ := hW
  have hA : DataW.TrodAll enc Try.prog W 0 (fun _ => true) true Try.f5.params.toList args.toList ds p := hA0
  rw [Try.params5] at hA hval hsz
  obtain ⟨v0, vs0, d0, ds0, p0, q0, hargs, rfl, rfl, h0, r0⟩ := trodAll_cons hA
  obtain ⟨v1, vs1, d1, ds1, p1, q1, rfl, rfl, rfl, h1, r1⟩ := trodAll_cons r0
  obtain ⟨rfl, rfl, rfl⟩ := trodAll_nil r1
  obtain rfl : args = #[v0, v1] := by cases args; simp_all
  obtain ⟨rfl, rfl⟩ := trodVars_none hV
  obtain ⟨a0, rfl, rfl, rfl, w0⟩ := open_int Try.underlying3 (hval 0 3 v0 rfl rfl) h0
  have kk1 := h1
  have lt1 := trod_old h1
  obtain ⟨x1, hx1, ok1⟩ := opn1.arg h1 hsz (j := 1) rfl rfl
  obtain ⟨A1, c1, e1, hl1, hc1⟩ := hx1
  obtain ⟨aa1, ll1, cc1, rfl⟩ := okWide_slice Try.underlying34 (hval 1 34 v1 rfl rfl)
  obtain ⟨rfl, rfl, rfl⟩ : aa1 = A1 ∧ ll1 = x1.length ∧ cc1 = c1 := by simpa [Value.cells] using e1
  clear hA0 hval0 hsz0 hsz
  obtain ⟨k, h⟩ := Pure.LedgerSums _ _ w0 ok1
  refine (offertorylaw29_LedgerSums.calls k a0 (fun _ => True) aa1 cc1 x1 true W (V_came k27_heap hc1 hl1) h).mono fun e W' ⟨he, bel⟩ => ?_
  subst he
  exact ⟨_, rfl, _, _, _, [], _, [], hW', trodAll_mk1 (shut_bool Try.underlying4 _), (trodAll_cons_mk (shut_int Try.underlying3 w0) (trodAll_cons_mk (Below.trod laidOut (by kernel_rfl) (of_decide_eq_true (by kernel_rfl)) kk1 bel lt1) trodAll_mk0)), rfl, bel.frame _, fun h => by cases h⟩
theorem over : Rows.ledgerSumsRow.holds Try.pinned (OpenSpec.ofChange Rows.ledgerSumsSpec) :=
  OpenClaim.holds_of_wide 5 Try.f5 rfl rfl rfl rfl rfl rfl rfl ⟨rfl, rfl, rfl, rfl, rfl⟩ rfl rfl rfl rfl rfl (by kernel_rfl) Try.func5 (by kernel_rfl)
    (of_decide_eq_true (by kernel_rfl)) (by unfold Func.isWrapper; first | (rw [if_pos (by decide +kernel)]; kernel_rfl) | (rw [if_neg (by decide +kernel)]; exact ⟨rfl, rfl⟩))
    (fun os started H enc _ => lifted os started H enc)
theorem proved : Rows.LedgerSumsSaid := over
#print axioms proved
end Go.Proofs.Yticihbccflflfaa.ledgerSums
namespace Go.Proofs.Yticihbccflflfaa
/-- The row, under a short name, for the claim. -/
theorem ledgerSums_holds : Rows.LedgerSumsSaid := ledgerSums.proved
end Go.Proofs.Yticihbccflflfaa
