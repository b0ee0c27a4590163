/- The statement IdealSees, as given (the tied card), out of the plain law (PureIdealSees) and the walk. No condition beyond the row's own. -/
import Derived.Test.YtpicmnkkkgedeaaDoorRows
import Derived.Test.YtpicmnkkkgedeaaDoorPAllx15
import Derived.Test.YtpicmnkkkgedeaaDoorPureIdealSees
import Derived.Test.YtpicmnkkkgedeaaDoorOpen
import Derived.Test.YtpicmnkkkgedeaaDoorCards
import Derived.Test.YtpicmnkkkgedeaaDoorTie
import Derived.WalkKit
import Derived.ProofKit
import Derived.OpenShut
import Derived.ShutString
import Derived.ChangeOld
import Derived.Below
import Derived.SizedLaws
import Derived.Carry
import Derived.Deep.DeepHandedRow
import Derived.Lib.LaidTab
import Derived.SevenTiedAt
namespace Go.Proofs.YtpicmnkkkgedeaaDoor.idealSees
open Go.ChangeShapes Go.WideShapes Go.ChangeAt Go.RowKit Go.Proofs.YtpicmnkkkgedeaaDoorW.PrintWords Go.Proofs.YtpicmnkkkgedeaaDoor.Opn Go.Proofs.YtpicmnkkkgedeaaDoor.PAll
open Go.ChangeMaps (open_string shut_string)
set_option linter.unusedVariables false
theorem own : ownKnob Tryd.prog.godebug = none := by kernel_rfl
theorem laidOut : laidOutB Tryd.prog = true := by kernel_rfl
theorem opn0 : Opn Tryd.prog 22 (Kd.slice 35 (Kd.slice 37 (Kd.int .u32))) (SliceOk 24 (SliceOk 4 (fun n => (Lit.int .u32 n).wf = true))) :=
  (opn_slice (bytes := 24) Tryd.underlying22 (by kernel_rfl) (by kernel_rfl) 35 (opn_slice (bytes := 4) Tryd.underlying35 (by kernel_rfl) (by kernel_rfl) 37 (opn_int Tryd.underlying37 (by kernel_rfl))))
theorem opn1 : Opn Tryd.prog 25 (Kd.pair (Kd.slice 35 (Kd.slice 37 (Kd.int .u32))) (Kd.slice 22 (Kd.slice 35 (Kd.slice 37 (Kd.int .u32))))) (fun v => (SliceOk 24 (SliceOk 4 (fun n => (Lit.int .u32 n).wf = true))) v.1 ∧ (SliceOk 24 (SliceOk 24 (SliceOk 4 (fun n => (Lit.int .u32 n).wf = true)))) v.2) :=
  (opn_struct Tryd.underlying25 (by kernel_rfl) (opnL_cons (opn_slice (bytes := 24) Tryd.underlying22 (by kernel_rfl) (by kernel_rfl) 35 (opn_slice (bytes := 4) Tryd.underlying35 (by kernel_rfl) (by kernel_rfl) 37 (opn_int Tryd.underlying37 (by kernel_rfl)))) (opnL_one (opn_slice (bytes := 24) Tryd.underlying23 (by kernel_rfl) (by kernel_rfl) 22 (opn_slice (bytes := 24) Tryd.underlying22 (by kernel_rfl) (by kernel_rfl) 35 (opn_slice (bytes := 4) Tryd.underlying35 (by kernel_rfl) (by kernel_rfl) 37 (opn_int Tryd.underlying37 (by kernel_rfl))))))))
theorem gTab : Tryd.prog.globalNamed "math/bits.deBruijn64tab" = some 0 := by kernel_rfl
theorem gTabType : (Tryd.prog.globals[0]?).map (·.type) = some 80 := by kernel_rfl
theorem cellsTab : Tryd.prog.cellsOf 80 = 64 := by kernel_rfl
theorem cellsOne : Tryd.prog.cellsOf 5 = 1 := by kernel_rfl
theorem table {W : World} (h : laidMetH Tryd.prog Rows.idealSeesRow.laid W) : Tab W := by
  have t : Lib.TabIs Tryd.prog W "math/bits.deBruijn64tab" .u8 [0, 1, 56, 2, 57, 49, 28, 3, 61, 58, 42, 50, 38, 29, 17, 4, 62, 47, 59, 36, 45, 43, 51, 22, 53, 39, 33, 30, 24, 18, 12, 5, 63, 55, 48, 27, 60, 41, 37, 16, 46, 35, 44, 21, 52, 32, 23, 11, 54, 26, 40, 15, 34, 20, 31, 10, 25, 14, 19, 9, 13, 8, 7, 6] := Lib.tabIs_of_head (rest := []) gTab gTabType Tryd.underlying80 Tryd.underlying5 cellsOne cellsTab h
  have key : ∀ j, j < 64 → W.cell? ⟨0, j, none⟩ = some (.int .u8 (([0, 1, 56, 2, 57, 49, 28, 3, 61, 58, 42, 50, 38, 29, 17, 4, 62, 47, 59, 36, 45, 43, 51, 22, 53, 39, 33, 30, 24, 18, 12, 5, 63, 55, 48, 27, 60, 41, 37, 16, 46, 35, 44, 21, 52, 32, 23, 11, 54, 26, 40, 15, 34, 20, 31, 10, 25, 14, 19, 9, 13, 8, 7, 6] : List Int).getD j 0)) := fun j hj => t.cell gTab j hj
  refine ⟨?_, ?_⟩
  · have := key 0 (by decide)
    apply Decidable.byContradiction
    intro hn
    have e : W.heap[0]? = none := Array.getElem?_eq_none (by omega)
    simp only [World.cell?, e] at this
    cases this
  · intro j hj
    rw [key j hj]
    have same : ∀ j : Fin 64, ([0, 1, 56, 2, 57, 49, 28, 3, 61, 58, 42, 50, 38, 29, 17, 4, 62, 47, 59, 36, 45, 43, 51, 22, 53, 39, 33, 30, 24, 18, 12, 5, 63, 55, 48, 27, 60, 41, 37, 16, 46, 35, 44, 21, 52, 32, 23, 11, 54, 26, 40, 15, 34, 20, 31, 10, 25, 14, 19, 9, 13, 8, 7, 6] : List Int).getD j.val 0 = ((Lib.deBruijn64tab.getD j.val 0 : Nat) : Int) := by decide +kernel
    rw [same ⟨j, hj⟩]
set_option maxRecDepth 100000 in
theorem contract (H : Type) (enc : TypeId × Value → H) (W : World) (base : Nat) (args : Array Value) (ds gs : List (DataW H)) (before : List MemPlace)
    (hval0 : ∀ (j : Nat) t v, Tryd.f4.params[j]? = some t → args[j]? = some v → Value.okWide Tryd.prog W .any base t v)
    (hW : DataW.Whole enc Tryd.prog Tryd.f4.params.toList Rows.idealSeesSpec.vars false W args.toList ds gs before)
    (hsz0 : (DataW.weightsEach Tryd.prog (Tryd.f4.params.toList ++ Rows.idealSeesSpec.plain.varTypes Tryd.prog) (ds ++ gs)).all (· ≤ reachBytes) = true) (hL : laidMetH Tryd.prog Rows.idealSeesRow.laid W) :
    Calls Tryd.prog 4 args W fun e W' => ∃ v, e = .returned v ∧ Rows.idealSeesSpec.post enc Tryd.prog Tryd.f4 false true false false W args v W' := by
  have hTab := table hL
  have hsz : (DataW.weightsEach Tryd.prog (Tryd.f4.params.toList ++ Rows.idealSeesSpec.plain.varTypes Tryd.prog) (ds ++ gs)).all (· ≤ reachBytes) = true := hsz0
  have hval : ∀ (j : Nat) t v, Tryd.f4.params[j]? = some t → args[j]? = some v → Value.okWide Tryd.prog W .any base t v := hval0
  have hW' := hW
  obtain ⟨p, q, hA0, hV, rfl, hfz, hnd⟩ := hW
  have hA : DataW.TrodAll enc Tryd.prog W 0 (fun _ => true) true Tryd.f4.params.toList args.toList ds p := hA0
  rw [Tryd.params4] at hA hval hsz
  obtain ⟨v0, vs0, d0, ds0, p0, q0, hargs, rfl, rfl, h0, r0⟩ := trodAll_cons hA
  obtain ⟨v1, vs1, d1, ds1, p1, q1, rfl, rfl, rfl, h1, r1⟩ := trodAll_cons r0
  obtain ⟨v2, vs2, d2, ds2, p2, q2, rfl, rfl, rfl, h2, r2⟩ := trodAll_cons r1
  obtain ⟨v3, vs3, d3, ds3, p3, q3, rfl, rfl, rfl, h3, r3⟩ := trodAll_cons r2
  obtain ⟨rfl, rfl, rfl⟩ := trodAll_nil r3
  obtain rfl : args = #[v0, v1, v2, v3] := by cases args; simp_all
  obtain ⟨rfl, rfl⟩ := trodVars_none hV
  have kk0 := h0
  have lt0 := trod_old h0
  obtain ⟨x0, hx0, ok0⟩ := opn0.arg h0 hsz (j := 0) rfl rfl
  obtain ⟨A0, c0, e0, hl0, hc0⟩ := hx0
  obtain ⟨aa0, ll0, cc0, rfl⟩ := okWide_slice Tryd.underlying22 (hval 0 22 v0 rfl rfl)
  obtain ⟨rfl, rfl, rfl⟩ : aa0 = A0 ∧ ll0 = x0.length ∧ cc0 = c0 := by simpa [Value.cells] using e0
  have kk1 := h1
  have lt1 := trod_old h1
  obtain ⟨x1, hx1, ok1⟩ := opn1.arg h1 hsz (j := 1) rfl rfl
  obtain ⟨cs1, rfl, _⟩ := okWide_struct Tryd.underlying25 (hval 1 25 v1 rfl rfl)
  generalize hcs1 : (Value.agg cs1).cells.toList = cl1 at hx1
  obtain ⟨_, _, rfl, ⟨A1_0, c1_0, rfl, hl1_0, hc1_0⟩, ⟨A1_1, c1_1, rfl, hl1_1, hc1_1⟩⟩ := hx1
  obtain hag1 := agg_of hcs1
  clear hcs1
  have hv1 : Value.agg cs1 = .agg #[.slice A1_0 (x1.1).length c1_0, .slice A1_1 (x1.2).length c1_1] := hag1
  clear hag1
  rw [hv1]
  obtain ⟨a2, rfl, rfl, rfl, w2⟩ := open_int Tryd.underlying28 (hval 2 28 v2 rfl rfl) h2
  obtain ⟨a3, rfl, rfl, rfl, w3⟩ := open_int Tryd.underlying28 (hval 3 28 v3 rfl rfl) h3
  clear hA0 hval0 hsz0 hsz
  obtain ⟨k, h⟩ := Pure.IdealSees _ _ _ _ _ ok0 ok1.1 ok1.2 w2 w3
  refine (offertorylaw25_IdealSees.calls k aa0 cc0 x0 A1_0 c1_0 x1.1 A1_1 c1_1 x1.2 a2 a3 true W hc0 hl0 hc1_0 hl1_0 hc1_1 hl1_1 hTab h).mono fun e W' ⟨he, bel⟩ => ?_
  subst he
  rw [← hv1]
  exact ⟨_, rfl, _, _, _, [], _, [], hW', trodAll_mk1 (shut_bool Tryd.underlying4 _), (trodAll_cons_mk (Below.trod laidOut (by kernel_rfl) (of_decide_eq_true (by kernel_rfl)) kk0 bel lt0) (trodAll_cons_mk (Below.trod laidOut (by kernel_rfl) (of_decide_eq_true (by kernel_rfl)) kk1 bel lt1) (trodAll_cons_mk (shut_int Tryd.underlying28 w2) (trodAll_cons_mk (shut_int Tryd.underlying28 w3) trodAll_mk0)))), rfl, bel.frame _, fun h => by cases h⟩
/-- A world for the witness: the settled one, the table holding what its initialiser lays. -/
noncomputable def laidWorld (os : Os) : World :=
  { World.holding Tryd.prog os ⟨#[], #[], []⟩ with heap := (World.holding Tryd.prog os ⟨#[], #[], []⟩).heap.modify 0 fun
      | .cells _ t frozen => .cells #[.int .u8 0, .int .u8 1, .int .u8 56, .int .u8 2, .int .u8 57, .int .u8 49, .int .u8 28, .int .u8 3, .int .u8 61, .int .u8 58, .int .u8 42, .int .u8 50, .int .u8 38, .int .u8 29, .int .u8 17, .int .u8 4, .int .u8 62, .int .u8 47, .int .u8 59, .int .u8 36, .int .u8 45, .int .u8 43, .int .u8 51, .int .u8 22, .int .u8 53, .int .u8 39, .int .u8 33, .int .u8 30, .int .u8 24, .int .u8 18, .int .u8 12, .int .u8 5, .int .u8 63, .int .u8 55, .int .u8 48, .int .u8 27, .int .u8 60, .int .u8 41, .int .u8 37, .int .u8 16, .int .u8 46, .int .u8 35, .int .u8 44, .int .u8 21, .int .u8 52, .int .u8 32, .int .u8 23, .int .u8 11, .int .u8 54, .int .u8 26, .int .u8 40, .int .u8 15, .int .u8 34, .int .u8 20, .int .u8 31, .int .u8 10, .int .u8 25, .int .u8 14, .int .u8 19, .int .u8 9, .int .u8 13, .int .u8 8, .int .u8 7, .int .u8 6] t frozen
      | o => o }
theorem laid_met (os : Os) : laidMet Tryd.prog Rows.idealSeesRow.laid ((laidWorld os).forCall (fun _ _ => 0) ⟨#[], #[.slice none 0 0, .agg #[.slice none 0 0, .slice none 0 0], .int .u64 0, .int .u64 0], []⟩).memory :=
  laidMet_of_run' 8 (by kernel_rfl) (by kernel_rfl)
theorem reads (os : Os) {H : Type} (enc : TypeId × Value → H) : ∃ places, DataW.whole enc Tryd.prog ((laidWorld os).forCall (fun _ _ => 0) ⟨#[], #[.slice none 0 0, .agg #[.slice none 0 0, .slice none 0 0], .int .u64 0, .int .u64 0], []⟩).memory Tryd.f4.params.toList Rows.idealSeesSpec.vars false (#[.slice none 0 0, .agg #[.slice none 0 0, .slice none 0 0], .int .u64 0, .int .u64 0] : Array Value).toList 8 = some ([.nil, .agg [.nil, .nil], .lit (.int .u64 0), .lit (.int .u64 0)], [], places) :=
  ⟨[], by kernel_rfl⟩
set_option maxRecDepth 100000 in
theorem lifted (os : Os) (started : os.Started) (H : Type) (enc : TypeId × Value → H) (F : Stop.Interp) :
    ReturnsInHanded {} Tryd.checked os 4 .any ((OpenSpec.ofChange Rows.idealSeesSpec).preRow enc Tryd.prog Tryd.f4 Rows.idealSeesRow.domain false Rows.idealSeesRow.laid) (((OpenSpec.ofChange Rows.idealSeesSpec).at F).post enc Tryd.prog Tryd.f4 false true false false) := by
  obtain ⟨places, hx⟩ := reads os enc
  refine returnsInHanded_of_row (C := Tryd.checked) (s := OpenSpec.ofChange Rows.idealSeesSpec) own started (by kernel_rfl) Tryd.func4
    (witness_row_at (enc := enc) (C := Tryd.checked) false (laidWorld os) #[.slice none 0 0, .agg #[.slice none 0 0, .slice none 0 0], .int .u64 0, .int .u64 0] rfl (by kernel_rfl) (by kernel_rfl) (by kernel_rfl)
      (OpenSpec.preRow_of_cond 8 hx (by kernel_rfl) (fun k hk => by cases hk) (by kernel_rfl) (laid_met os))) ?_
  intro W base args ds gs before hval hW _ _ hsz hL _ _
  exact contract H enc W base args ds gs before hval hW hsz hL
theorem said : Rows.IdealSeesSaid :=
  OpenClaim.holds_of_cond 4 Tryd.f4 rfl rfl rfl rfl rfl rfl rfl ⟨rfl, rfl, rfl, rfl, rfl⟩ rfl rfl rfl rfl rfl (by kernel_rfl) Tryd.func4 (by kernel_rfl)
    (of_decide_eq_true (by kernel_rfl)) (by unfold Func.isWrapper; first | (rw [if_pos (by decide +kernel)]; kernel_rfl) | (rw [if_neg (by decide +kernel)]; exact ⟨rfl, rfl⟩))
    (fun os started H enc _ F => by rw [OpenClaim.pre_eq_preRow]; exact lifted os started H enc F)
/-- No parameter wants a stand-in; the program's own looks are off. -/
theorem plain (f : FuncId) (fn : Func) (hf : Tryd.pinned.checked.prog.funcNamed "offertory/offertorylaw25.IdealSees" = some f) (hfn : Tryd.pinned.checked.prog.funcs[f]? = some fn) :
    false = Tryd.pinned.checked.prog.looks [] ∧ ∀ (j : Nat) t, fn.params[j]? = some t → Tryd.pinned.checked.prog.wantsStandIn t = false := by
  obtain rfl : f = 4 := Option.some.inj ((show Tryd.prog.funcNamed "offertory/offertorylaw25.IdealSees" = some 4 by kernel_rfl).symm.trans hf) |>.symm
  obtain rfl : fn = Tryd.f4 := (Option.some.inj (Tryd.func4.symm.trans hfn)).symm
  refine ⟨by kernel_rfl, fun j t ht => ?_⟩
  rw [Tryd.params4] at ht
  have hm : t ∈ [22, 25, 28, 28] := by
    have := Array.mem_of_getElem? ht
    simpa using this
  have all : ∀ u ∈ [22, 25, 28, 28], Tryd.prog.wantsStandIn u = false := by
    intro u hu
    simp only [List.mem_cons, List.mem_nil_iff, or_false] at hu
    rcases hu with rfl | rfl | rfl | rfl
    · exact (show Tryd.prog.wantsStandIn 22 = false by kernel_rfl)
    · exact (show Tryd.prog.wantsStandIn 25 = false by kernel_rfl)
    · exact (show Tryd.prog.wantsStandIn 28 = false by kernel_rfl)
    · exact (show Tryd.prog.wantsStandIn 28 = false by kernel_rfl)
  exact all t hm
theorem card : Rows.IdealSeesCardSaid :=
  Claim7.holds_tied_plain_at .later [] _ _ _ _ said (fun _ h => by cases h) (by kernel_rfl) (fun _ h => by cases h) idealSees_row_tie rfl ⟨rfl, rfl⟩ (by kernel_rfl) rfl plain (by kernel_rfl)
#print axioms card
end Go.Proofs.YtpicmnkkkgedeaaDoor.idealSees
namespace Go.Proofs.YtpicmnkkkgedeaaDoor
/-- The card, under a short name, for the claim. -/
theorem idealSees_holds : Rows.IdealSeesCardSaid := idealSees.card
end Go.Proofs.YtpicmnkkkgedeaaDoor
