/- The statement RingOrder, as given, out of the plain law (PureRingOrder) and the walk. No condition beyond the row's own. -/
import Derived.Test.YthlbolibaheclaaRows
import Derived.Test.YthlbolibaheclaaPAllx5
import Derived.Test.YthlbolibaheclaaPureRingOrder
import Derived.Test.YthlbolibaheclaaOpen
import Derived.WalkKit
import Derived.ProofKit
import Derived.OpenShut
import Derived.ShutString
import Derived.ChangeOld
import Derived.Below
import Derived.SizedLaws
import Derived.Carry
namespace Go.Proofs.Ythlbolibaheclaa.ringOrder
open Go.ChangeShapes Go.WideShapes Go.ChangeAt Go.RowKit Go.Proofs.YthlbolibaheclaaW.PrintWords Go.Proofs.Ythlbolibaheclaa.Opn Go.Proofs.Ythlbolibaheclaa.PAll
open Go.ChangeMaps (open_string shut_string)
set_option linter.unusedVariables false
theorem own : ownKnob Try.prog.godebug = none := by kernel_rfl
theorem laidOut : laidOutB Try.prog = true := by kernel_rfl
theorem opn0 : Opn Try.prog 22 (Kd.slice 28 (Kd.int .u32)) (SliceOk 4 (fun n => (Lit.int .u32 n).wf = true)) :=
  (opn_slice (bytes := 4) Try.underlying22 (by kernel_rfl) (by kernel_rfl) 28 (opn_int Try.underlying28 (by kernel_rfl)))
theorem opn1 : Opn Try.prog 22 (Kd.slice 28 (Kd.int .u32)) (SliceOk 4 (fun n => (Lit.int .u32 n).wf = true)) :=
  (opn_slice (bytes := 4) Try.underlying22 (by kernel_rfl) (by kernel_rfl) 28 (opn_int Try.underlying28 (by kernel_rfl)))
theorem opn2 : Opn Try.prog 22 (Kd.slice 28 (Kd.int .u32)) (SliceOk 4 (fun n => (Lit.int .u32 n).wf = true)) :=
  (opn_slice (bytes := 4) Try.underlying22 (by kernel_rfl) (by kernel_rfl) 28 (opn_int Try.underlying28 (by kernel_rfl)))
set_option maxRecDepth 100000 in
theorem lifted (os : Os) (started : os.Started) (H : Type) (enc : TypeId × Value → H) :
    ReturnsInHanded {} Try.checked os 5 .any (Rows.ringOrderSpec.pre6 enc Try.prog Try.f5 Rows.ringOrderRow.domain false) (Rows.ringOrderSpec.post enc Try.prog Try.f5 false true false false) := by
  refine returnsInHanded_of_change_sized (C := Try.checked) own started (by kernel_rfl) Try.func5
    (ChangeSpec.witness6 (enc := enc) (C := Try.checked) false ⟨#[], #[.slice none 0 0, .slice none 0 0, .slice none 0 0], []⟩ 8 (by kernel_rfl) (by kernel_rfl) (by kernel_rfl) (by kernel_rfl)) ?_
  intro W base args ds gs before hval0 hW hcnd hsz0 _
  have hsz : (DataW.weightsEach Try.prog (Try.f5.params.toList ++ Rows.ringOrderSpec.plain.varTypes Try.prog) (ds ++ gs)).all (· ≤ reachBytes) = true := hsz0
  have hval : ∀ (j : Nat) t v, Try.f5.params[j]? = some t → args[j]? = some v → Value.okWide Try.prog W .any base t v := hval0
  have hW' := hW
  obtain ⟨p, q, hA0, hV, rfl, hfz, hnd⟩ := hW
  have hA : DataW.TrodAll enc Try.prog W 0 (fun _ => true) true Try.f5.params.toList args.toList ds p := hA0
  rw [Try.params5] at hA hval hsz
  obtain ⟨v0, vs0, d0, ds0, p0, q0, hargs, rfl, rfl, h0, r0⟩ := trodAll_cons hA
  obtain ⟨v1, vs1, d1, ds1, p1, q1, rfl, rfl, rfl, h1, r1⟩ := trodAll_cons r0
  obtain ⟨v2, vs2, d2, ds2, p2, q2, rfl, rfl, rfl, h2, r2⟩ := trodAll_cons r1
  obtain ⟨rfl, rfl, rfl⟩ := trodAll_nil r2
  obtain rfl : args = #[v0, v1, v2] := by cases args; simp_all
  obtain ⟨rfl, rfl⟩ := trodVars_none hV
  have kk0 := h0
  have lt0 := trod_old h0
  obtain ⟨x0, hx0, ok0⟩ := opn0.arg h0 hsz (j := 0) rfl rfl
  obtain ⟨A0, c0, e0, hl0, hc0⟩ := hx0
  obtain ⟨aa0, ll0, cc0, rfl⟩ := okWide_slice Try.underlying22 (hval 0 22 v0 rfl rfl)
  obtain ⟨rfl, rfl, rfl⟩ : aa0 = A0 ∧ ll0 = x0.length ∧ cc0 = c0 := by simpa [Value.cells] using e0
  have kk1 := h1
  have lt1 := trod_old h1
  obtain ⟨x1, hx1, ok1⟩ := opn1.arg h1 hsz (j := 1) rfl rfl
  obtain ⟨A1, c1, e1, hl1, hc1⟩ := hx1
  obtain ⟨aa1, ll1, cc1, rfl⟩ := okWide_slice Try.underlying22 (hval 1 22 v1 rfl rfl)
  obtain ⟨rfl, rfl, rfl⟩ : aa1 = A1 ∧ ll1 = x1.length ∧ cc1 = c1 := by simpa [Value.cells] using e1
  have kk2 := h2
  have lt2 := trod_old h2
  obtain ⟨x2, hx2, ok2⟩ := opn2.arg h2 hsz (j := 2) rfl rfl
  obtain ⟨A2, c2, e2, hl2, hc2⟩ := hx2
  obtain ⟨aa2, ll2, cc2, rfl⟩ := okWide_slice Try.underlying22 (hval 2 22 v2 rfl rfl)
  obtain ⟨rfl, rfl, rfl⟩ : aa2 = A2 ∧ ll2 = x2.length ∧ cc2 = c2 := by simpa [Value.cells] using e2
  clear hA0 hval0 hsz0 hsz
  obtain ⟨k, h⟩ := Pure.RingOrder _ _ _ ok0 ok1 ok2
  refine (offertorylaw02_RingOrder.calls k (fun _ => True) aa0 cc0 x0 (fun _ => True) aa1 cc1 x1 (fun _ => True) aa2 cc2 x2 true W (V_came (Kd.heap_int .u32) hc0 hl0) (V_came (Kd.heap_int .u32) hc1 hl1) (V_came (Kd.heap_int .u32) hc2 hl2) h).mono fun e W' ⟨he, bel⟩ => ?_
  subst he
  exact ⟨_, rfl, _, _, _, [], _, [], hW', trodAll_mk1 (shut_bool Try.underlying4 _), (trodAll_cons_mk (Below.trod laidOut (by kernel_rfl) (of_decide_eq_true (by kernel_rfl)) kk0 bel lt0) (trodAll_cons_mk (Below.trod laidOut (by kernel_rfl) (of_decide_eq_true (by kernel_rfl)) kk1 bel lt1) (trodAll_cons_mk (Below.trod laidOut (by kernel_rfl) (of_decide_eq_true (by kernel_rfl)) kk2 bel lt2) trodAll_mk0))), rfl, bel.frame _, fun h => by cases h⟩
theorem over : Rows.ringOrderRow.holds Try.pinned (OpenSpec.ofChange Rows.ringOrderSpec) :=
  OpenClaim.holds_of_wide 5 Try.f5 rfl rfl rfl rfl rfl rfl rfl ⟨rfl, rfl, rfl, rfl, rfl⟩ rfl rfl rfl rfl rfl (by kernel_rfl) Try.func5 (by kernel_rfl)
    (of_decide_eq_true (by kernel_rfl)) (by unfold Func.isWrapper; first | (rw [if_pos (by decide +kernel)]; kernel_rfl) | (rw [if_neg (by decide +kernel)]; exact ⟨rfl, rfl⟩))
    (fun os started H enc _ => lifted os started H enc)
theorem proved : Rows.RingOrderSaid := over
#print axioms proved
end Go.Proofs.Ythlbolibaheclaa.ringOrder
namespace Go.Proofs.Ythlbolibaheclaa
/-- The row, under a short name, for the claim. -/
theorem ringOrder_holds : Rows.RingOrderSaid := ringOrder.proved
end Go.Proofs.Ythlbolibaheclaa
