/- The statement RingSums, as given, out of the plain law (PureRingSums) and the walk. No condition beyond the row's own. -/
import Derived.Test.YthlbolibaheclaaRows
import Derived.Test.YthlbolibaheclaaPAllx3
import Derived.Test.YthlbolibaheclaaPureRingSums
import Derived.Test.YthlbolibaheclaaOpen
import Derived.WalkKit
import Derived.ProofKit
import Derived.OpenShut
import Derived.ShutString
import Derived.ChangeOld
import Derived.Below
import Derived.SizedLaws
import Derived.Carry
namespace Go.Proofs.Ythlbolibaheclaa.ringSums
open Go.ChangeShapes Go.WideShapes Go.ChangeAt Go.RowKit Go.Proofs.YthlbolibaheclaaW.PrintWords Go.Proofs.Ythlbolibaheclaa.Opn Go.Proofs.Ythlbolibaheclaa.PAll
open Go.ChangeMaps (open_string shut_string)
set_option linter.unusedVariables false
theorem own : ownKnob Try.prog.godebug = none := by kernel_rfl
theorem laidOut : laidOutB Try.prog = true := by kernel_rfl
theorem opn0 : Opn Try.prog 22 (Kd.slice 28 (Kd.int .u32)) (SliceOk 4 (fun n => (Lit.int .u32 n).wf = true)) :=
  (opn_slice (bytes := 4) Try.underlying22 (by kernel_rfl) (by kernel_rfl) 28 (opn_int Try.underlying28 (by kernel_rfl)))
theorem opn1 : Opn Try.prog 22 (Kd.slice 28 (Kd.int .u32)) (SliceOk 4 (fun n => (Lit.int .u32 n).wf = true)) :=
  (opn_slice (bytes := 4) Try.underlying22 (by kernel_rfl) (by kernel_rfl) 28 (opn_int Try.underlying28 (by kernel_rfl)))
set_option maxRecDepth 100000 in
theorem lifted (os : Os) (started : os.Started) (H : Type) (enc : TypeId × Value → H) :
    ReturnsInHanded {} Try.checked os 3 .any (Rows.ringSumsSpec.pre6 enc Try.prog Try.f3 Rows.ringSumsRow.domain false) (Rows.ringSumsSpec.post enc Try.prog Try.f3 false true false false) := by
  refine returnsInHanded_of_change_sized (C := Try.checked) own started (by kernel_rfl) Try.func3
    (ChangeSpec.witness6 (enc := enc) (C := Try.checked) false ⟨#[], #[.slice none 0 0, .slice none 0 0], []⟩ 8 (by kernel_rfl) (by kernel_rfl) (by kernel_rfl) (by kernel_rfl)) ?_
  intro W base args ds gs before hval0 hW hcnd hsz0 _
  have hsz : (DataW.weightsEach Try.prog (Try.f3.params.toList ++ Rows.ringSumsSpec.plain.varTypes Try.prog) (ds ++ gs)).all (· ≤ reachBytes) = true := hsz0
  have hval : ∀ (j : Nat) t v, Try.f3.params[j]? = some t → args[j]? = some v → Value.okWide Try.prog W .any base t v := hval0
  have hW' := hW
  obtain ⟨p, q, hA0, hV, rfl, hfz, hnd⟩ := hW
  have hA : DataW.TrodAll enc Try.prog W 0 (fun _ => true) true Try.f3.params.toList args.toList ds p := hA0
  rw [Try.params3] at hA hval hsz
  obtain ⟨v0, vs0, d0, ds0, p0, q0, hargs, rfl, rfl, h0, r0⟩ := trodAll_cons hA
  obtain ⟨v1, vs1, d1, ds1, p1, q1, rfl, rfl, rfl, h1, r1⟩ := trodAll_cons r0
  obtain ⟨rfl, rfl, rfl⟩ := trodAll_nil r1
  obtain rfl : args = #[v0, v1] := by cases args; simp_all
  obtain ⟨rfl, rfl⟩ := trodVars_none hV
  have kk0 := h0
  have lt0 := trod_old h0
  obtain ⟨x0, hx0, ok0⟩ := opn0.arg h0 hsz (j := 0) rfl rfl
  obtain ⟨A0, c0, e0, hl0, hc0⟩ := hx0
  obtain ⟨aa0, ll0, cc0, rfl⟩ := okWide_slice Try.underlying22 (hval 0 22 v0 rfl rfl)
  obtain ⟨rfl, rfl, rfl⟩ : aa0 = A0 ∧ ll0 = x0.length ∧ cc0 = c0 := by simpa [Value.cells] using e0
  have kk1 := h1
  have lt1 := trod_old h1
  obtain ⟨x1, hx1, ok1⟩ := opn1.arg h1 hsz (j := 1) rfl rfl
  obtain ⟨A1, c1, e1, hl1, hc1⟩ := hx1
  obtain ⟨aa1, ll1, cc1, rfl⟩ := okWide_slice Try.underlying22 (hval 1 22 v1 rfl rfl)
  obtain ⟨rfl, rfl, rfl⟩ : aa1 = A1 ∧ ll1 = x1.length ∧ cc1 = c1 := by simpa [Value.cells] using e1
  clear hA0 hval0 hsz0 hsz
  obtain ⟨k, h⟩ := Pure.RingSums _ _ ok0 ok1
  refine (offertorylaw02_RingSums.calls k aa0 cc0 x0 aa1 cc1 x1 true W hc0 hl0 hc1 hl1 h).mono fun e W' ⟨he, bel⟩ => ?_
  subst he
  exact ⟨_, rfl, _, _, _, [], _, [], hW', trodAll_mk1 (shut_bool Try.underlying4 _), (trodAll_cons_mk (Below.trod laidOut (by kernel_rfl) (of_decide_eq_true (by kernel_rfl)) kk0 bel lt0) (trodAll_cons_mk (Below.trod laidOut (by kernel_rfl) (of_decide_eq_true (by kernel_rfl)) kk1 bel lt1) trodAll_mk0)), rfl, bel.frame _, fun h => by cases h⟩
theorem over : Rows.ringSumsRow.holds Try.pinned (OpenSpec.ofChange Rows.ringSumsSpec) :=
  OpenClaim.holds_of_wide 3 Try.f3 rfl rfl rfl rfl rfl rfl rfl ⟨rfl, rfl, rfl, rfl, rfl⟩ rfl rfl rfl rfl rfl (by kernel_rfl) Try.func3 (by kernel_rfl)
    (of_decide_eq_true (by kernel_rfl)) (by unfold Func.isWrapper; first | (rw [if_pos (by decide +kernel)]; kernel_rfl) | (rw [if_neg (by decide +kernel)]; exact ⟨rfl, rfl⟩))
    (fun os started H enc _ => lifted os started H enc)
theorem proved : Rows.RingSumsSaid := over
#print axioms proved
end Go.Proofs.Ythlbolibaheclaa.ringSums
namespace Go.Proofs.Ythlbolibaheclaa
/-- The row, under a short name, for the claim. -/
theorem ringSums_holds : Rows.RingSumsSaid := ringSums.proved
end Go.Proofs.Ythlbolibaheclaa
