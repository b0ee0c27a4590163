/- The statement StatsDecodes, as given, out of the plain law (PureStatsDecodes) and the walk. No condition beyond the row's own. -/
import Derived.Test.YtdpekjffjobabaaRows
import Derived.Test.YtdpekjffjobabaaPAllx13
import Derived.Test.YtdpekjffjobabaaPureStatsDecodes
import Derived.Test.YtdpekjffjobabaaOpen
import Derived.WalkKit
import Derived.ProofKit
import Derived.OpenShut
import Derived.ShutString
import Derived.ChangeOld
import Derived.Below
import Derived.SizedLaws
import Derived.Carry
namespace Go.Proofs.Ytdpekjffjobabaa.statsDecodes
open Go.ChangeShapes Go.WideShapes Go.ChangeAt Go.RowKit Go.Proofs.YtdpekjffjobabaaW.PrintWords Go.Proofs.Ytdpekjffjobabaa.Opn Go.Proofs.Ytdpekjffjobabaa.PAll
open Go.ChangeMaps (open_string shut_string)
set_option linter.unusedVariables false
theorem own : ownKnob Try.prog.godebug = none := by kernel_rfl
theorem laidOut : laidOutB Try.prog = true := by kernel_rfl
theorem opn0 : Opn Try.prog 24 (Kd.pair (Kd.int .i64) (Kd.pair (Kd.int .i64) (Kd.pair (Kd.int .i64) (Kd.slice 3 (Kd.int .i64))))) (fun v => (fun n => (Lit.int .i64 n).wf = true) v.1 ∧ (fun v => (fun n => (Lit.int .i64 n).wf = true) v.1 ∧ (fun v => (fun n => (Lit.int .i64 n).wf = true) v.1 ∧ (SliceOk 8 (fun n => (Lit.int .i64 n).wf = true)) v.2) v.2) v.2) :=
  (opn_struct Try.underlying24 (by kernel_rfl) (opnL_cons (opn_int Try.underlying3 (by kernel_rfl)) (opnL_cons (opn_int Try.underlying3 (by kernel_rfl)) (opnL_cons (opn_int Try.underlying3 (by kernel_rfl)) (opnL_one (opn_slice (bytes := 8) Try.underlying22 (by kernel_rfl) (by kernel_rfl) 3 (opn_int Try.underlying3 (by kernel_rfl))))))))
theorem opn1 : Opn Try.prog 38 (Kd.slice 43 (Kd.int .u32)) (SliceOk 4 (fun n => (Lit.int .u32 n).wf = true)) :=
  (opn_slice (bytes := 4) Try.underlying38 (by kernel_rfl) (by kernel_rfl) 43 (opn_int Try.underlying43 (by kernel_rfl)))
set_option maxRecDepth 100000 in
theorem lifted (os : Os) (started : os.Started) (H : Type) (enc : TypeId × Value → H) :
    ReturnsInHanded {} Try.checked os 4 .any (Rows.statsDecodesSpec.pre6 enc Try.prog Try.f4 Rows.statsDecodesRow.domain false) (Rows.statsDecodesSpec.post enc Try.prog Try.f4 false true false false) := by
  refine returnsInHanded_of_change_sized (C := Try.checked) own started (by kernel_rfl) Try.func4
    (ChangeSpec.witness6 (enc := enc) (C := Try.checked) false ⟨#[], #[.agg #[.int .i64 0, .int .i64 0, .int .i64 0, .slice none 0 0], .slice none 0 0], []⟩ 8 (by kernel_rfl) (by kernel_rfl) (by kernel_rfl) (by kernel_rfl)) ?_
  intro W base args ds gs before hval0 hW hcnd hsz0 _
  have hsz : (DataW.weightsEach Try.prog (Try.f4.params.toList ++ Rows.statsDecodesSpec.plain.varTypes Try.prog) (ds ++ gs)).all (· ≤ reachBytes) = true := hsz0
  have hval : ∀ (j : Nat) t v, Try.f4.params[j]? = some t → args[j]? = some v → Value.okWide Try.prog W .any base t v := hval0
  have hW' := hW
  obtain ⟨p, q, hA0, hV, rfl, hfz, hnd⟩ := hW
  have hA : DataW.TrodAll enc Try.prog W 0 (fun _ => true) true Try.f4.params.toList args.toList ds p := hA0
  rw [Try.params4] at hA hval hsz
  obtain ⟨v0, vs0, d0, ds0, p0, q0, hargs, rfl, rfl, h0, r0⟩ := trodAll_cons hA
  obtain ⟨v1, vs1, d1, ds1, p1, q1, rfl, rfl, rfl, h1, r1⟩ := trodAll_cons r0
  obtain ⟨rfl, rfl, rfl⟩ := trodAll_nil r1
  obtain rfl : args = #[v0, v1] := by cases args; simp_all
  obtain ⟨rfl, rfl⟩ := trodVars_none hV
  have kk0 := h0
  have lt0 := trod_old h0
  obtain ⟨x0, hx0, ok0⟩ := opn0.arg h0 hsz (j := 0) rfl rfl
  obtain ⟨cs0, rfl, _⟩ := okWide_struct Try.underlying24 (hval 0 24 v0 rfl rfl)
  generalize hcs0 : (Value.agg cs0).cells.toList = cl0 at hx0
  obtain ⟨_, _, rfl, rfl, ⟨_, _, rfl, rfl, ⟨_, _, rfl, rfl, ⟨A0_3, c0_3, rfl, hl0_3, hc0_3⟩⟩⟩⟩ := hx0
  obtain hag0 := agg_of hcs0
  clear hcs0
  have hv0 : Value.agg cs0 = .agg #[.int .i64 x0.1, .int .i64 x0.2.1, .int .i64 x0.2.2.1, .slice A0_3 (x0.2.2.2).length c0_3] := hag0
  clear hag0
  rw [hv0]
  have kk1 := h1
  have lt1 := trod_old h1
  obtain ⟨x1, hx1, ok1⟩ := opn1.arg h1 hsz (j := 1) rfl rfl
  obtain ⟨A1, c1, e1, hl1, hc1⟩ := hx1
  obtain ⟨aa1, ll1, cc1, rfl⟩ := okWide_slice Try.underlying38 (hval 1 38 v1 rfl rfl)
  obtain ⟨rfl, rfl, rfl⟩ : aa1 = A1 ∧ ll1 = x1.length ∧ cc1 = c1 := by simpa [Value.cells] using e1
  clear hA0 hval0 hsz0 hsz
  obtain ⟨k, h⟩ := Pure.StatsDecodes _ _ _ _ _ ok0.1 ok0.2.1 ok0.2.2.1 ok0.2.2.2 ok1
  refine (offertorylaw13_StatsDecodes.calls k x0.1 x0.2.1 x0.2.2.1 A0_3 c0_3 x0.2.2.2 aa1 cc1 x1 true W hc0_3 hl0_3 hc1 hl1 h).mono fun e W' ⟨he, bel⟩ => ?_
  subst he
  rw [← hv0]
  exact ⟨_, rfl, _, _, _, [], _, [], hW', trodAll_mk1 (shut_bool Try.underlying4 _), (trodAll_cons_mk (Below.trod laidOut (by kernel_rfl) (of_decide_eq_true (by kernel_rfl)) kk0 bel lt0) (trodAll_cons_mk (Below.trod laidOut (by kernel_rfl) (of_decide_eq_true (by kernel_rfl)) kk1 bel lt1) trodAll_mk0)), rfl, bel.frame _, fun h => by cases h⟩
theorem over : Rows.statsDecodesRow.holds Try.pinned (OpenSpec.ofChange Rows.statsDecodesSpec) :=
  OpenClaim.holds_of_wide 4 Try.f4 rfl rfl rfl rfl rfl rfl rfl ⟨rfl, rfl, rfl, rfl, rfl⟩ rfl rfl rfl rfl rfl (by kernel_rfl) Try.func4 (by kernel_rfl)
    (of_decide_eq_true (by kernel_rfl)) (by unfold Func.isWrapper; first | (rw [if_pos (by decide +kernel)]; kernel_rfl) | (rw [if_neg (by decide +kernel)]; exact ⟨rfl, rfl⟩))
    (fun os started H enc _ => lifted os started H enc)
theorem proved : Rows.StatsDecodesSaid := over
#print axioms proved
end Go.Proofs.Ytdpekjffjobabaa.statsDecodes
namespace Go.Proofs.Ytdpekjffjobabaa
/-- The row, under a short name, for the claim. -/
theorem statsDecodes_holds : Rows.StatsDecodesSaid := statsDecodes.proved
end Go.Proofs.Ytdpekjffjobabaa
