/- The statement RankMeans, as given, out of the plain law (PureRankMeans) and the walk. No condition beyond the row's own. -/
import Derived.Test.YthokkogdkpmdcaaRows
import Derived.Test.YthokkogdkpmdcaaPAllxMeans
import Derived.Test.YthokkogdkpmdcaaPureRankMeans
import Derived.Test.YthokkogdkpmdcaaOpen
import Derived.WalkKit
import Derived.ProofKit
import Derived.OpenShut
import Derived.ShutString
import Derived.ChangeOld
import Derived.Below
import Derived.SizedLaws
import Derived.Carry
namespace Go.Proofs.Ythokkogdkpmdcaa.rankMeans
open Go.ChangeShapes Go.WideShapes Go.ChangeAt Go.RowKit Go.Proofs.YthokkogdkpmdcaaW.PrintWords Go.Proofs.Ythokkogdkpmdcaa.Opn Go.Proofs.Ythokkogdkpmdcaa.PAll
open Go.ChangeMaps (open_string shut_string)
set_option linter.unusedVariables false
theorem own : ownKnob Try.prog.godebug = none := by kernel_rfl
theorem laidOut : laidOutB Try.prog = true := by kernel_rfl
theorem opn0 : Opn Try.prog 36 (Kd.pair (Kd.slice 3 (Kd.int .i64)) (Kd.pair (Kd.int .i64) (Kd.pair (Kd.pair (Kd.int .u64) (Kd.int .u64)) (Kd.pair (Kd.pair (Kd.int .u64) (Kd.int .u64)) Kd.bool)))) (fun v => (SliceOk 8 (fun n => (Lit.int .i64 n).wf = true)) v.1 ∧ (fun v => (fun n => (Lit.int .i64 n).wf = true) v.1 ∧ (fun v => (fun v => (fun n => (Lit.int .u64 n).wf = true) v.1 ∧ (fun n => (Lit.int .u64 n).wf = true) v.2) v.1 ∧ (fun v => (fun v => (fun n => (Lit.int .u64 n).wf = true) v.1 ∧ (fun n => (Lit.int .u64 n).wf = true) v.2) v.1 ∧ (fun _ => True) v.2) v.2) v.2) v.2) :=
  (opn_struct Try.underlying36 (by kernel_rfl) (opnL_cons (opn_slice (bytes := 8) Try.underlying22 (by kernel_rfl) (by kernel_rfl) 3 (opn_int Try.underlying3 (by kernel_rfl))) (opnL_cons (opn_int Try.underlying3 (by kernel_rfl)) (opnL_cons (opn_struct Try.underlying34 (by kernel_rfl) (opnL_cons (opn_int Try.underlying32 (by kernel_rfl)) (opnL_one (opn_int Try.underlying32 (by kernel_rfl))))) (opnL_cons (opn_struct Try.underlying34 (by kernel_rfl) (opnL_cons (opn_int Try.underlying32 (by kernel_rfl)) (opnL_one (opn_int Try.underlying32 (by kernel_rfl))))) (opnL_one (opn_bool Try.underlying4 (by kernel_rfl))))))))
set_option maxRecDepth 100000 in
theorem lifted (os : Os) (started : os.Started) (H : Type) (enc : TypeId × Value → H) :
    ReturnsInHanded {} Try.checked os 4 .any (Rows.rankMeansSpec.pre6 enc Try.prog Try.f4 Rows.rankMeansRow.domain false) (Rows.rankMeansSpec.post enc Try.prog Try.f4 false true false false) := by
  refine returnsInHanded_of_change_sized (C := Try.checked) own started (by kernel_rfl) Try.func4
    (ChangeSpec.witness6 (enc := enc) (C := Try.checked) false ⟨#[], #[.agg #[.slice none 0 0, .int .i64 0, .int .u64 0, .int .u64 0, .int .u64 0, .int .u64 0, .bool false]], []⟩ 8 (by kernel_rfl) (by kernel_rfl) (by kernel_rfl) (by kernel_rfl)) ?_
  intro W base args ds gs before hval0 hW hcnd hsz0 _
  have hsz : (DataW.weightsEach Try.prog (Try.f4.params.toList ++ Rows.rankMeansSpec.plain.varTypes Try.prog) (ds ++ gs)).all (· ≤ reachBytes) = true := hsz0
  have hval : ∀ (j : Nat) t v, Try.f4.params[j]? = some t → args[j]? = some v → Value.okWide Try.prog W .any base t v := hval0
  have hW' := hW
  obtain ⟨p, q, hA0, hV, rfl, hfz, hnd⟩ := hW
  have hA : DataW.TrodAll enc Try.prog W 0 (fun _ => true) true Try.f4.params.toList args.toList ds p := hA0
  rw [Try.params4] at hA hval hsz
  obtain ⟨v0, vs0, d0, ds0, p0, q0, hargs, rfl, rfl, h0, r0⟩ := trodAll_cons hA
  obtain ⟨rfl, rfl, rfl⟩ := trodAll_nil r0
  obtain rfl : args = #[v0] := by cases args; simp_all
  obtain ⟨rfl, rfl⟩ := trodVars_none hV
  have kk0 := h0
  have lt0 := trod_old h0
  obtain ⟨x0, hx0, ok0⟩ := opn0.arg h0 hsz (j := 0) rfl rfl
  obtain ⟨cs0, rfl, _⟩ := okWide_struct Try.underlying36 (hval 0 36 v0 rfl rfl)
  generalize hcs0 : (Value.agg cs0).cells.toList = cl0 at hx0
  obtain ⟨_, _, rfl, ⟨A0_0, c0_0, rfl, hl0_0, hc0_0⟩, ⟨_, _, rfl, rfl, ⟨_, _, rfl, ⟨_, _, rfl, rfl, rfl⟩, ⟨_, _, rfl, ⟨_, _, rfl, rfl, rfl⟩, rfl⟩⟩⟩⟩ := hx0
  obtain hag0 := agg_of hcs0
  clear hcs0
  have hv0 : Value.agg cs0 = .agg #[.slice A0_0 (x0.1).length c0_0, .int .i64 x0.2.1, .int .u64 x0.2.2.1.1, .int .u64 x0.2.2.1.2, .int .u64 x0.2.2.2.1.1, .int .u64 x0.2.2.2.1.2, .bool x0.2.2.2.2] := hag0
  clear hag0
  rw [hv0]
  clear hA0 hval0 hsz0 hsz
  obtain ⟨k, h⟩ := Pure.RankMeans _ _ _ _ _ _ _ ok0.1 ok0.2.1 ok0.2.2.1.1 ok0.2.2.1.2 ok0.2.2.2.1.1 ok0.2.2.2.1.2
  refine (offertorylaw28_RankMeans.calls k A0_0 c0_0 x0.1 x0.2.1 x0.2.2.1.1 x0.2.2.1.2 x0.2.2.2.1.1 x0.2.2.2.1.2 x0.2.2.2.2 true W hc0_0 hl0_0 h).mono fun e W' ⟨he, bel⟩ => ?_
  subst he
  rw [← hv0]
  exact ⟨_, rfl, _, _, _, [], _, [], hW', trodAll_mk1 (shut_bool Try.underlying4 _), (trodAll_cons_mk (Below.trod laidOut (by kernel_rfl) (of_decide_eq_true (by kernel_rfl)) kk0 bel lt0) trodAll_mk0), rfl, bel.frame _, fun h => by cases h⟩
theorem over : Rows.rankMeansRow.holds Try.pinned (OpenSpec.ofChange Rows.rankMeansSpec) :=
  OpenClaim.holds_of_wide 4 Try.f4 rfl rfl rfl rfl rfl rfl rfl ⟨rfl, rfl, rfl, rfl, rfl⟩ rfl rfl rfl rfl rfl (by kernel_rfl) Try.func4 (by kernel_rfl)
    (of_decide_eq_true (by kernel_rfl)) (by unfold Func.isWrapper; first | (rw [if_pos (by decide +kernel)]; kernel_rfl) | (rw [if_neg (by decide +kernel)]; exact ⟨rfl, rfl⟩))
    (fun os started H enc _ => lifted os started H enc)
theorem proved : Rows.RankMeansSaid := over
#print axioms proved
end Go.Proofs.Ythokkogdkpmdcaa.rankMeans
namespace Go.Proofs.Ythokkogdkpmdcaa
/-- The row, under a short name, for the claim. -/
theorem rankMeans_holds : Rows.RankMeansSaid := rankMeans.proved
end Go.Proofs.Ythokkogdkpmdcaa
