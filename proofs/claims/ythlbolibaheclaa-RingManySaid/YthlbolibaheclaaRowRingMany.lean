/- The statement RingMany, as given, out of the plain law (PureRingMany) and the walk. No condition beyond the row's own. -/
import Derived.Test.YthlbolibaheclaaRows
import Derived.Test.YthlbolibaheclaaPAllx4
import Derived.Test.YthlbolibaheclaaPureRingMany
import Derived.Test.YthlbolibaheclaaOpen
import Derived.WalkKit
import Derived.ProofKit
import Derived.OpenShut
import Derived.ShutString
import Derived.ChangeOld
import Derived.Below
import Derived.SizedLaws
import Derived.Carry
namespace Go.Proofs.Ythlbolibaheclaa.ringMany
open Go.ChangeShapes Go.WideShapes Go.ChangeAt Go.RowKit Go.Proofs.YthlbolibaheclaaW.PrintWords Go.Proofs.Ythlbolibaheclaa.Opn Go.Proofs.Ythlbolibaheclaa.PAll
open Go.ChangeMaps (open_string shut_string)
set_option linter.unusedVariables false
theorem own : ownKnob Try.prog.godebug = none := by kernel_rfl
theorem laidOut : laidOutB Try.prog = true := by kernel_rfl
theorem opn1 : Opn Try.prog 30 (Kd.slice 22 (Kd.slice 28 (Kd.int .u32))) (SliceOk 24 (SliceOk 4 (fun n => (Lit.int .u32 n).wf = true))) :=
  (opn_slice (bytes := 24) Try.underlying30 (by kernel_rfl) (by kernel_rfl) 22 (opn_slice (bytes := 4) Try.underlying22 (by kernel_rfl) (by kernel_rfl) 28 (opn_int Try.underlying28 (by kernel_rfl))))
set_option maxRecDepth 100000 in
theorem lifted (os : Os) (started : os.Started) (H : Type) (enc : TypeId × Value → H) :
    ReturnsInHanded {} Try.checked os 4 .any (Rows.ringManySpec.pre6 enc Try.prog Try.f4 Rows.ringManyRow.domain false) (Rows.ringManySpec.post enc Try.prog Try.f4 false true false false) := by
  refine returnsInHanded_of_change_sized (C := Try.checked) own started (by kernel_rfl) Try.func4
    (ChangeSpec.witness6 (enc := enc) (C := Try.checked) false ⟨#[], #[.int .i64 0, .slice none 0 0], []⟩ 8 (by kernel_rfl) (by kernel_rfl) (by kernel_rfl) (by kernel_rfl)) ?_
  intro W base args ds gs before hval0 hW hcnd hsz0 _
  have hsz : (DataW.weightsEach Try.prog (Try.f4.params.toList ++ Rows.ringManySpec.plain.varTypes Try.prog) (ds ++ gs)).all (· ≤ reachBytes) = true := hsz0
  have hval : ∀ (j : Nat) t v, Try.f4.params[j]? = some t → args[j]? = some v → Value.okWide Try.prog W .any base t v := hval0
  have hW' := hW
  obtain ⟨p, q, hA0, hV, rfl, hfz, hnd⟩ := hW
  have hA : DataW.TrodAll enc Try.prog W 0 (fun _ => true) true Try.f4.params.toList args.toList ds p := hA0
  rw [Try.params4] at hA hval hsz
  obtain ⟨v0, vs0, d0, ds0, p0, q0, hargs, rfl, rfl, h0, r0⟩ := trodAll_cons hA
  obtain ⟨v1, vs1, d1, ds1, p1, q1, rfl, rfl, rfl, h1, r1⟩ := trodAll_cons r0
  obtain ⟨rfl, rfl, rfl⟩ := trodAll_nil r1
  obtain rfl : args = #[v0, v1] := by cases args; simp_all
  obtain ⟨rfl, rfl⟩ := trodVars_none hV
  obtain ⟨a0, rfl, rfl, rfl, w0⟩ := open_int Try.underlying3 (hval 0 3 v0 rfl rfl) h0
  have kk1 := h1
  have lt1 := trod_old h1
  obtain ⟨x1, hx1, ok1⟩ := opn1.arg h1 hsz (j := 1) rfl rfl
  obtain ⟨A1, c1, e1, hl1, hc1⟩ := hx1
  obtain ⟨aa1, ll1, cc1, rfl⟩ := okWide_slice Try.underlying30 (hval 1 30 v1 rfl rfl)
  obtain ⟨rfl, rfl, rfl⟩ : aa1 = A1 ∧ ll1 = x1.length ∧ cc1 = c1 := by simpa [Value.cells] using e1
  clear hA0 hval0 hsz0 hsz
  obtain ⟨k, h⟩ := Pure.RingMany _ _ w0 ok1
  refine (offertorylaw02_RingMany.calls k a0 aa1 cc1 x1 true W hc1 hl1 h).mono fun e W' ⟨he, bel⟩ => ?_
  subst he
  exact ⟨_, rfl, _, _, _, [], _, [], hW', trodAll_mk1 (shut_bool Try.underlying4 _), (trodAll_cons_mk (shut_int Try.underlying3 w0) (trodAll_cons_mk (Below.trod laidOut (by kernel_rfl) (of_decide_eq_true (by kernel_rfl)) kk1 bel lt1) trodAll_mk0)), rfl, bel.frame _, fun h => by cases h⟩
theorem over : Rows.ringManyRow.holds Try.pinned (OpenSpec.ofChange Rows.ringManySpec) :=
  OpenClaim.holds_of_wide 4 Try.f4 rfl rfl rfl rfl rfl rfl rfl ⟨rfl, rfl, rfl, rfl, rfl⟩ rfl rfl rfl rfl rfl (by kernel_rfl) Try.func4 (by kernel_rfl)
    (of_decide_eq_true (by kernel_rfl)) (by unfold Func.isWrapper; first | (rw [if_pos (by decide +kernel)]; kernel_rfl) | (rw [if_neg (by decide +kernel)]; exact ⟨rfl, rfl⟩))
    (fun os started H enc _ => lifted os started H enc)
theorem proved : Rows.RingManySaid := over
#print axioms proved
end Go.Proofs.Ythlbolibaheclaa.ringMany
namespace Go.Proofs.Ythlbolibaheclaa
/-- The row, under a short name, for the claim. -/
theorem ringMany_holds : Rows.RingManySaid := ringMany.proved
end Go.Proofs.Ythlbolibaheclaa
