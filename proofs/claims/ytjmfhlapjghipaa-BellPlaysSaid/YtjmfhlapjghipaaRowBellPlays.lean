/- The statement BellPlays, as given, out of the plain law (PureBellPlays) and the walk. No condition beyond the row's own. -/
import Derived.Test.YtjmfhlapjghipaaRows
import Derived.Test.YtjmfhlapjghipaaPAllx6
import Derived.Test.YtjmfhlapjghipaaPureBellPlays
import Derived.Test.YtjmfhlapjghipaaOpen
import Derived.WalkKit
import Derived.ProofKit
import Derived.OpenShut
import Derived.ShutString
import Derived.ChangeOld
import Derived.Below
import Derived.SizedLaws
import Derived.Carry
namespace Go.Proofs.Ytjmfhlapjghipaa.bellPlays
open Go.ChangeShapes Go.WideShapes Go.ChangeAt Go.RowKit Go.Proofs.YtjmfhlapjghipaaW.PrintWords Go.Proofs.Ytjmfhlapjghipaa.Opn Go.Proofs.Ytjmfhlapjghipaa.PAll
open Go.ChangeMaps (open_string shut_string)
set_option linter.unusedVariables false
theorem own : ownKnob Try.prog.godebug = none := by kernel_rfl
theorem laidOut : laidOutB Try.prog = true := by kernel_rfl
theorem opn0 : Opn Try.prog 22 (Kd.slice 28 k28) (SliceOk 24 (fun b : S28 => (fun v => (fun n => (Lit.int .i64 n).wf = true) v.1 ∧ (fun v => (fun n => (Lit.int .i64 n).wf = true) v.1 ∧ (fun n => (Lit.int .i64 n).wf = true) v.2) v.2) ((b.f0, (b.f1, b.f2))))) :=
  (opn_slice (bytes := 24) Try.underlying22 (by kernel_rfl) (by kernel_rfl) 28 (show Opn Try.prog 28 k28 _ from opn_iso (opn_struct Try.underlying28 (by kernel_rfl) (opnL_cons (opn_int Try.underlying3 (by kernel_rfl)) (opnL_cons (opn_int Try.underlying3 (by kernel_rfl)) (opnL_one (opn_int Try.underlying3 (by kernel_rfl)))))) (fun b : S28 => (b.f0, (b.f1, b.f2))) (fun v => ⟨v.1, v.2.1, v.2.2⟩) (fun _ => rfl)))
set_option maxRecDepth 100000 in
theorem lifted (os : Os) (started : os.Started) (H : Type) (enc : TypeId × Value → H) :
    ReturnsInHanded {} Try.checked os 3 .any (Rows.bellPlaysSpec.pre6 enc Try.prog Try.f3 Rows.bellPlaysRow.domain false) (Rows.bellPlaysSpec.post enc Try.prog Try.f3 false true false false) := by
  refine returnsInHanded_of_change_sized (C := Try.checked) own started (by kernel_rfl) Try.func3
    (ChangeSpec.witness6 (enc := enc) (C := Try.checked) false ⟨#[], #[.slice none 0 0], []⟩ 8 (by kernel_rfl) (by kernel_rfl) (by kernel_rfl) (by kernel_rfl)) ?_
  intro W base args ds gs before hval0 hW hcnd hsz0 _
  have hsz : (DataW.weightsEach Try.prog (Try.f3.params.toList ++ Rows.bellPlaysSpec.plain.varTypes Try.prog) (ds ++ gs)).all (· ≤ reachBytes) = true := hsz0
  have hval : ∀ (j : Nat) t v, Try.f3.params[j]? = some t → args[j]? = some v → Value.okWide Try.prog W .any base t v := hval0
  have hW' := hW
  obtain ⟨p, q, hA0, hV, rfl, hfz, hnd⟩ := hW
  have hA : DataW.TrodAll enc Try.prog W 0 (fun _ => true) true Try.f3.params.toList args.toList ds p := hA0
  rw [Try.params3] at hA hval hsz
  obtain ⟨v0, vs0, d0, ds0, p0, q0, hargs, rfl, rfl, h0, r0⟩ := trodAll_cons hA
  obtain ⟨rfl, rfl, rfl⟩ := trodAll_nil r0
  obtain rfl : args = #[v0] := by cases args; simp_all
  obtain ⟨rfl, rfl⟩ := trodVars_none hV
  have kk0 := h0
  have lt0 := trod_old h0
  obtain ⟨x0, hx0, ok0⟩ := opn0.arg h0 hsz (j := 0) rfl rfl
  obtain ⟨A0, c0, e0, hl0, hc0⟩ := hx0
  obtain ⟨aa0, ll0, cc0, rfl⟩ := okWide_slice Try.underlying22 (hval 0 22 v0 rfl rfl)
  obtain ⟨rfl, rfl, rfl⟩ : aa0 = A0 ∧ ll0 = x0.length ∧ cc0 = c0 := by simpa [Value.cells] using e0
  clear hA0 hval0 hsz0 hsz
  have h := Pure.BellPlays _ ok0
  refine (offertorylaw19_BellPlays.calls aa0 cc0 x0 true W hc0 hl0 h).mono fun e W' ⟨he, bel⟩ => ?_
  subst he
  exact ⟨_, rfl, _, _, _, [], _, [], hW', trodAll_mk1 (shut_bool Try.underlying4 _), (trodAll_cons_mk (Below.trod laidOut (by kernel_rfl) (of_decide_eq_true (by kernel_rfl)) kk0 bel lt0) trodAll_mk0), rfl, bel.frame _, fun h => by cases h⟩
theorem over : Rows.bellPlaysRow.holds Try.pinned (OpenSpec.ofChange Rows.bellPlaysSpec) :=
  OpenClaim.holds_of_wide 3 Try.f3 rfl rfl rfl rfl rfl rfl rfl ⟨rfl, rfl, rfl, rfl, rfl⟩ rfl rfl rfl rfl rfl (by kernel_rfl) Try.func3 (by kernel_rfl)
    (of_decide_eq_true (by kernel_rfl)) (by unfold Func.isWrapper; first | (rw [if_pos (by decide +kernel)]; kernel_rfl) | (rw [if_neg (by decide +kernel)]; exact ⟨rfl, rfl⟩))
    (fun os started H enc _ => lifted os started H enc)
theorem proved : Rows.BellPlaysSaid := over
#print axioms proved
end Go.Proofs.Ytjmfhlapjghipaa.bellPlays
namespace Go.Proofs.Ytjmfhlapjghipaa
/-- The row, under a short name, for the claim. -/
theorem bellPlays_holds : Rows.BellPlaysSaid := bellPlays.proved
end Go.Proofs.Ytjmfhlapjghipaa
