/- The statement WideTexts, as given, out of the plain law (PureWideTexts) and the walk. No condition beyond the row's own. -/
import Derived.Test.YtaldennkcafceaaRows
import Derived.Test.YtaldennkcafceaaPAllx5
import Derived.Test.YtaldennkcafceaaPureWideTexts
import Derived.Test.YtaldennkcafceaaOpen
import Derived.WalkKit
import Derived.ProofKit
import Derived.OpenShut
import Derived.ShutString
import Derived.ChangeOld
import Derived.Below
import Derived.SizedLaws
import Derived.Carry
namespace Go.Proofs.Ytaldennkcafceaa.wideTexts
open Go.ChangeShapes Go.WideShapes Go.ChangeAt Go.RowKit Go.Proofs.YtaldennkcafceaaW.PrintWords Go.Proofs.Ytaldennkcafceaa.Opn Go.Proofs.Ytaldennkcafceaa.PAll
open Go.ChangeMaps (open_string shut_string)
set_option linter.unusedVariables false
theorem own : ownKnob Try.prog.godebug = none := by kernel_rfl
theorem laidOut : laidOutB Try.prog = true := by kernel_rfl
theorem opn0 : Opn Try.prog 25 (Kd.pair (Kd.int .u64) (Kd.int .u64)) (fun v => (fun n => (Lit.int .u64 n).wf = true) v.1 ∧ (fun n => (Lit.int .u64 n).wf = true) v.2) :=
  (opn_struct Try.underlying25 (by kernel_rfl) (opnL_cons (opn_int Try.underlying22 (by kernel_rfl)) (opnL_one (opn_int Try.underlying22 (by kernel_rfl)))))
set_option maxRecDepth 100000 in
theorem lifted (os : Os) (started : os.Started) (H : Type) (enc : TypeId × Value → H) :
    ReturnsInHanded {} Try.checked os 5 .any (Rows.wideTextsSpec.pre6 enc Try.prog Try.f5 Rows.wideTextsRow.domain false) (Rows.wideTextsSpec.post enc Try.prog Try.f5 false true false false) := by
  refine returnsInHanded_of_change_sized (C := Try.checked) own started (by kernel_rfl) Try.func5
    (ChangeSpec.witness6 (enc := enc) (C := Try.checked) false ⟨#[], #[.agg #[.int .u64 0, .int .u64 0]], []⟩ 8 (by kernel_rfl) (by kernel_rfl) (by kernel_rfl) (by kernel_rfl)) ?_
  intro W base args ds gs before hval0 hW hcnd hsz0 _
  have hsz : (DataW.weightsEach Try.prog (Try.f5.params.toList ++ Rows.wideTextsSpec.plain.varTypes Try.prog) (ds ++ gs)).all (· ≤ reachBytes) = true := hsz0
  have hval : ∀ (j : Nat) t v, Try.f5.params[j]? = some t → args[j]? = some v → Value.okWide Try.prog W .any base t v := hval0
  have hW' := hW
  obtain ⟨p, q, hA0, hV, rfl, hfz, hnd⟩ := hW
  have hA : DataW.TrodAll enc Try.prog W 0 (fun _ => true) true Try.f5.params.toList args.toList ds p := hA0
  rw [Try.params5] at hA hval hsz
  obtain ⟨v0, vs0, d0, ds0, p0, q0, hargs, rfl, rfl, h0, r0⟩ := trodAll_cons hA
  obtain ⟨rfl, rfl, rfl⟩ := trodAll_nil r0
  obtain rfl : args = #[v0] := by cases args; simp_all
  obtain ⟨rfl, rfl⟩ := trodVars_none hV
  have kk0 := h0
  have lt0 := trod_old h0
  obtain ⟨x0, hx0, ok0⟩ := opn0.arg h0 hsz (j := 0) rfl rfl
  obtain ⟨cs0, rfl, _⟩ := okWide_struct Try.underlying25 (hval 0 25 v0 rfl rfl)
  generalize hcs0 : (Value.agg cs0).cells.toList = cl0 at hx0
  obtain ⟨_, _, rfl, rfl, rfl⟩ := hx0
  obtain hag0 := agg_of hcs0
  clear hcs0
  have hv0 : Value.agg cs0 = .agg #[.int .u64 x0.1, .int .u64 x0.2] := hag0
  clear hag0
  rw [hv0]
  clear hA0 hval0 hsz0 hsz
  obtain ⟨k, h⟩ := Pure.WideTexts _ _ ok0.1 ok0.2
  refine (offertorylaw09_WideTexts.calls k x0.1 x0.2 true W  h).mono fun e W' ⟨he, bel⟩ => ?_
  subst he
  rw [← hv0]
  exact ⟨_, rfl, _, _, _, [], _, [], hW', trodAll_mk1 (shut_bool Try.underlying4 _), (trodAll_cons_mk (Below.trod laidOut (by kernel_rfl) (of_decide_eq_true (by kernel_rfl)) kk0 bel lt0) trodAll_mk0), rfl, bel.frame _, fun h => by cases h⟩
theorem over : Rows.wideTextsRow.holds Try.pinned (OpenSpec.ofChange Rows.wideTextsSpec) :=
  OpenClaim.holds_of_wide 5 Try.f5 rfl rfl rfl rfl rfl rfl rfl ⟨rfl, rfl, rfl, rfl, rfl⟩ rfl rfl rfl rfl rfl (by kernel_rfl) Try.func5 (by kernel_rfl)
    (of_decide_eq_true (by kernel_rfl)) (by unfold Func.isWrapper; first | (rw [if_pos (by decide +kernel)]; kernel_rfl) | (rw [if_neg (by decide +kernel)]; exact ⟨rfl, rfl⟩))
    (fun os started H enc _ => lifted os started H enc)
theorem proved : Rows.WideTextsSaid := over
#print axioms proved
end Go.Proofs.Ytaldennkcafceaa.wideTexts
namespace Go.Proofs.Ytaldennkcafceaa
/-- The row, under a short name, for the claim. -/
theorem wideTexts_holds : Rows.WideTextsSaid := wideTexts.proved
end Go.Proofs.Ytaldennkcafceaa
