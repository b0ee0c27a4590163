/- The Go functions that the laws reach, as Lean functions, and that each call comes to what its function says. Written by a program of this session (a turned copy of the kit's print). No condition beyond those that each theorem states. -/
import Derived.Test.YthokkogdkpmdcaaPAllx0
import Derived.Test.YthokkogdkpmdcaaPAllx4
import Derived.Test.YthokkogdkpmdcaaPAllx5
import Derived.Test.YthokkogdkpmdcaaPAllx8
namespace Go.Proofs.Ythokkogdkpmdcaa.PAll
open Go.RowKit Go.Proofs.YthokkogdkpmdcaaW.PrintWords Go.Proofs.YthokkogdkpmdcaaW.PrintLast Go.Proofs.YthokkogdkpmdcaaW.PrintMore
attribute [local go_sem] max2_int min2_int max_two min_two max_three min_three max_four min_four   -- for this text's walks alone
set_option linter.unusedVariables false
set_option linter.unusedSimpArgs false

theorem law4B.keepB {W0 W w1 : World} {g : Nat} {o : Obj} (h : Aside0 (W0.heap[g]? = some o)) (hb : Below W.heap.size W w1) (hs : W0.heap[g]? = some o → W.heap[g]? = some o := by intro h_; (with_reducible repeat (first | refine blk_drewN ?_ _ | refine blk_drew ?_ | refine blk_alloc ?_ _)); exact h_) : Aside0 (w1.heap[g]? = some o) := ⟨(hb.block g (blk_lt (hs h.out))).trans (hs h.out)⟩
theorem law4B.neL {W0 W : World} {g gb : Nat} {o : Obj} (h : Aside0 (W0.heap[g]? = some o)) (hg : gb = W.heap.size) (hs : W0.heap[g]? = some o → W.heap[g]? = some o := by intro h_; (with_reducible repeat (first | refine blk_drewN ?_ _ | refine blk_drew ?_ | refine blk_alloc ?_ _)); exact h_) : Aside0 (g ≠ gb) := ⟨by rw [hg]; exact Nat.ne_of_lt (blk_lt (hs h.out))⟩
theorem law4B.neG {W0 W : World} {g gb : Nat} {o : Obj} (h : Aside0 (W0.heap[g]? = some o)) (hg : gb = W.heap.size) (hs : W0.heap[g]? = some o → W.heap[g]? = some o := by intro h_; (with_reducible repeat (first | refine blk_drewN ?_ _ | refine blk_drew ?_ | refine blk_alloc ?_ _)); exact h_) : Aside0 (gb ≠ g) := ⟨by rw [hg]; exact Nat.ne_of_gt (blk_lt (hs h.out))⟩
/-! ### law4B: function 4 -/
def law4B.j0 : Nat → Int → Int → List Int → Int → Int → Int → Int → Int → Bool → Int → Int → Int → Int → Int → Int → Int → Int → Int → Int → Int → Int → Int → Int → Int → Int → Option (Bool)
 | 0, _, _, _, _, _, _, _, _, _, _, _, _, _, _, _, _, _, _, _, _, _, _, _, _, _ => none
 | k + 1, x3, x4, x354000, x354001, x354002, x354003, x354004, x354005, x354006, x366000, x366001, x366002, x366003, x366004, x366005, x366006, x366007, x376000, x376001, x376002, x376003, x376004, x376005, x376006, x376007 => if x4 = 0 then (none) else ((offertoryref09_Shift.f k x366000 x366001 x366002 x366003 x366004 x366005 x366006 x366007 63).bind fun bt384 => ((offertoryref09_Neg.f bt384.1 bt384.2.1 bt384.2.2.1 bt384.2.2.2.1 bt384.2.2.2.2.1 bt384.2.2.2.2.2.1 bt384.2.2.2.2.2.2.1 bt384.2.2.2.2.2.2.2).bind fun bt393 => ((offertoryref09_Add.f x376000 x376001 x376002 x376003 x376004 x376005 x376006 x376007 bt393.1 bt393.2.1 bt393.2.2.1 bt393.2.2.2.1 bt393.2.2.2.2.1 bt393.2.2.2.2.2.1 bt393.2.2.2.2.2.2.1 bt393.2.2.2.2.2.2.2).bind fun bt401 => ((offertoryref09_Signed.f bt401.1 bt401.2.1 bt401.2.2.1 bt401.2.2.2.1 bt401.2.2.2.2.1 bt401.2.2.2.2.2.1 bt401.2.2.2.2.2.2.1 bt401.2.2.2.2.2.2.2).bind fun bt409 => ((offertoryref09_Add.f x376000 x376001 x376002 x376003 x376004 x376005 x376006 x376007 bt384.1 bt384.2.1 bt384.2.2.1 bt384.2.2.2.1 bt384.2.2.2.2.1 bt384.2.2.2.2.2.1 bt384.2.2.2.2.2.2.1 bt384.2.2.2.2.2.2.2).bind fun bt419 => ((offertoryref09_Signed.f bt419.1 bt419.2.1 bt419.2.2.1 bt419.2.2.2.1 bt419.2.2.2.2.1 bt419.2.2.2.2.2.1 bt419.2.2.2.2.2.2.1 bt419.2.2.2.2.2.2.2).bind fun bt427 => ((offertorylaw28_awake.f k).bind fun t437 => (if t437 = true then (if x4 = 4 then (if x3 = 0 then (if x354006 = true then (some bt427.2.2.2.2.2.2.2.2) else (if bt409.2.2.2.2.2.2.2.2 = true then (none) else (some true))) else (none)) else (none)) else (none)))))))))
def law4B.f (k : Nat) (l0_0 : List Int) (a0_1 : Int) (a0_2 : Int) (a0_3 : Int) (a0_4 : Int) (a0_5 : Int) (a0_6 : Bool) : Option (Bool) := (rank_Mean.f k l0_0 a0_1 a0_2 a0_3 a0_4 a0_5 a0_6).bind fun bt354 => (if a0_1 < 1 then ((offertorylaw28_awake.f k).bind fun t356 => (if t356 = true then (if bt354.2 = 1 then (some (bt354.1 == 0)) else (none)) else (none))) else ((offertoryref09_Int.f a0_1).bind fun bt357 => (if (a0_2 / 4611686018427387904) = 0 then ((offertoryref09_Of.f a0_2 a0_3).bind fun bt367 => (if a0_6 = true then ((offertoryref09_Neg.f bt367.1 bt367.2.1 bt367.2.2.1 bt367.2.2.2.1 bt367.2.2.2.2.1 bt367.2.2.2.2.2.1 bt367.2.2.2.2.2.2.1 bt367.2.2.2.2.2.2.2).bind fun bt376 => (law4B.j0 k bt354.1 bt354.2 l0_0 a0_1 a0_2 a0_3 a0_4 a0_5 a0_6 bt357.1 bt357.2.1 bt357.2.2.1 bt357.2.2.2.1 bt357.2.2.2.2.1 bt357.2.2.2.2.2.1 bt357.2.2.2.2.2.2.1 bt357.2.2.2.2.2.2.2 bt376.1 bt376.2.1 bt376.2.2.1 bt376.2.2.2.1 bt376.2.2.2.2.1 bt376.2.2.2.2.2.1 bt376.2.2.2.2.2.2.1 bt376.2.2.2.2.2.2.2)) else (law4B.j0 k bt354.1 bt354.2 l0_0 a0_1 a0_2 a0_3 a0_4 a0_5 a0_6 bt357.1 bt357.2.1 bt357.2.2.1 bt357.2.2.2.1 bt357.2.2.2.2.1 bt357.2.2.2.2.2.1 bt357.2.2.2.2.2.2.1 bt357.2.2.2.2.2.2.2 bt367.1 bt367.2.1 bt367.2.2.1 bt367.2.2.2.1 bt367.2.2.2.2.1 bt367.2.2.2.2.2.1 bt367.2.2.2.2.2.2.1 bt367.2.2.2.2.2.2.2))) else ((offertorylaw28_awake.f k).bind fun t366 => (if t366 = true then (if bt354.2 = 4 then (some (bt354.1 == 0)) else (none)) else (none))))))
theorem law4B.mono_l : ∀ k, (∀ y0 y1 y2 y3 y4 y5 y6 y7 y8 y9 y10 y11 y12 y13 y14 y15 y16 y17 y18 y19 y20 y21 y22 y23 y24, LeO (law4B.j0 k y0 y1 y2 y3 y4 y5 y6 y7 y8 y9 y10 y11 y12 y13 y14 y15 y16 y17 y18 y19 y20 y21 y22 y23 y24) (law4B.j0 (k + 1) y0 y1 y2 y3 y4 y5 y6 y7 y8 y9 y10 y11 y12 y13 y14 y15 y16 y17 y18 y19 y20 y21 y22 y23 y24))
 | 0 => fun _ _ _ _ _ _ _ _ _ _ _ _ _ _ _ _ _ _ _ _ _ _ _ _ _ r h => by simp [law4B.j0] at h
 | k + 1 => by
  have ih0 := law4B.mono_l k
  ·
   intro y0 y1 y2 y3 y4 y5 y6 y7 y8 y9 y10 y11 y12 y13 y14 y15 y16 y17 y18 y19 y20 y21 y22 y23 y24
   unfold law4B.j0
   repeat' first
   | (with_reducible exact ih0 _ _ _ _ _ _ _ _ _ _ _ _ _ _ _ _ _ _ _ _ _ _ _ _ _)
   | (with_reducible exact offertorylaw28_awake.mono _)
   | (with_reducible exact offertoryref09_Shift.mono _ _ _ _ _ _ _ _ _ _)
   | (with_reducible exact rank_Mean.mono _ _ _ _ _ _ _ _)
   | (with_reducible exact LeO.refl _)
   | (with_reducible exact LeO.none _)
   | (with_reducible refine LeO.ite ?_ ?_)
   | (with_reducible refine LeO.bind ?_ (fun _ => ?_))
   | exact ih0 _ _ _ _ _ _ _ _ _ _ _ _ _ _ _ _ _ _ _ _ _ _ _ _ _
   | exact offertorylaw28_awake.mono _
   | exact offertoryref09_Shift.mono _ _ _ _ _ _ _ _ _ _
   | exact rank_Mean.mono _ _ _ _ _ _ _ _
   | exact LeO.none _
   | refine LeO.ite ?_ ?_
   | refine LeO.bind ?_ (fun _ => ?_)
theorem law4B.mono : ∀ a0 a1 a2 a3 a4 a5 a6 k, LeO (law4B.f k a0 a1 a2 a3 a4 a5 a6) (law4B.f (k + 1) a0 a1 a2 a3 a4 a5 a6) := by
 intro a0 a1 a2 a3 a4 a5 a6 k
 have ih0 := law4B.mono_l k
 unfold law4B.f
 repeat' first
   | (with_reducible exact ih0 _ _ _ _ _ _ _ _ _ _ _ _ _ _ _ _ _ _ _ _ _ _ _ _ _)
   | (with_reducible exact offertorylaw28_awake.mono _)
   | (with_reducible exact offertoryref09_Shift.mono _ _ _ _ _ _ _ _ _ _)
   | (with_reducible exact rank_Mean.mono _ _ _ _ _ _ _ _)
   | (with_reducible exact LeO.refl _)
   | (with_reducible exact LeO.none _)
   | (with_reducible refine LeO.ite ?_ ?_)
   | (with_reducible refine LeO.bind ?_ (fun _ => ?_))
   | exact ih0 _ _ _ _ _ _ _ _ _ _ _ _ _ _ _ _ _ _ _ _ _ _ _ _ _
   | exact offertorylaw28_awake.mono _
   | exact offertoryref09_Shift.mono _ _ _ _ _ _ _ _ _ _
   | exact rank_Mean.mono _ _ _ _ _ _ _ _
   | exact LeO.none _
   | refine LeO.ite ?_ ?_
   | refine LeO.bind ?_ (fun _ => ?_)
def law4B.T12 : Bool × List (List Nat × List Nat) := (true, [([], []), ([], []), ([1], [1]), ([0, 2, 2], [0, 2]), ([3, 3], [3]), ([4], [4]), ([5], [5]), ([5], [5]), ([], []), ([8, 6, 4, 0, 1, 2, 3, 4, 5, 6, 8], [6, 8]), ([7, 9, 0, 1, 2, 3, 4, 5, 6, 7, 8, 9], [7])])
def law4B.B12 : List Nat := [0, 0, 2, 7, 15, 31, 63, 63, 0, 383, 1023]
theorem law4B.tab12 : rtab .any (opsOf Try.f4 12) = law4B.T12 := by kernel_rfl
theorem law4B.bits12 : waitsOk law4B.T12.2 law4B.B12 = true := by kernel_rfl
set_option maxHeartbeats 8000000 in
set_option maxRecDepth 100000 in
theorem law4B.calls (k : Nat) (A0_0 : Option Addr) (c0_0 : Nat) (l0_0 : List Int) (a0_1 : Int) (a0_2 : Int) (a0_3 : Int) (a0_4 : Int) (a0_5 : Int) (a0_6 : Bool) (r : Bool) (w : World) (hr0_0 : Kd.C (Kd.int .i64) w A0_0 l0_0.length l0_0) (hc0_0 : l0_0.length ≤ c0_0) (h : law4B.f k l0_0 a0_1 a0_2 a0_3 a0_4 a0_5 a0_6 = some r) :
  Calls Try.prog 4 #[.agg #[.slice A0_0 l0_0.length c0_0, .int .i64 a0_1, .int .u64 a0_2, .int .u64 a0_3, .int .u64 a0_4, .int .u64 a0_5, .bool a0_6]] w fun e w' => e = .returned (.bool r) ∧ Below w.heap.size w w' := by
 have hu36 := Try.underlying36
 have hu41 := Try.underlying41
 have hu34 := Try.underlying34
 have HR0_0 := Aside0.mk hr0_0
 have HC0_0 := Aside0.mk hc0_0
 clear hr0_0 hc0_0
 have HB := Aside0.mk (Below.refl w.heap.size w)
 have H : ((rank_Mean.f k l0_0 a0_1 a0_2 a0_3 a0_4 a0_5 a0_6).bind fun bt354 => (if a0_1 < 1 then ((offertorylaw28_awake.f k).bind fun t356 => (if t356 = true then (if bt354.2 = 1 then (some (bt354.1 == 0)) else (none)) else (none))) else ((offertoryref09_Int.f a0_1).bind fun bt357 => (if (a0_2 / 4611686018427387904) = 0 then ((offertoryref09_Of.f a0_2 a0_3).bind fun bt367 => (if a0_6 = true then ((offertoryref09_Neg.f bt367.1 bt367.2.1 bt367.2.2.1 bt367.2.2.2.1 bt367.2.2.2.2.1 bt367.2.2.2.2.2.1 bt367.2.2.2.2.2.2.1 bt367.2.2.2.2.2.2.2).bind fun bt376 => (law4B.j0 k bt354.1 bt354.2 l0_0 a0_1 a0_2 a0_3 a0_4 a0_5 a0_6 bt357.1 bt357.2.1 bt357.2.2.1 bt357.2.2.2.1 bt357.2.2.2.2.1 bt357.2.2.2.2.2.1 bt357.2.2.2.2.2.2.1 bt357.2.2.2.2.2.2.2 bt376.1 bt376.2.1 bt376.2.2.1 bt376.2.2.2.1 bt376.2.2.2.2.1 bt376.2.2.2.2.2.1 bt376.2.2.2.2.2.2.1 bt376.2.2.2.2.2.2.2)) else (law4B.j0 k bt354.1 bt354.2 l0_0 a0_1 a0_2 a0_3 a0_4 a0_5 a0_6 bt357.1 bt357.2.1 bt357.2.2.1 bt357.2.2.2.1 bt357.2.2.2.2.1 bt357.2.2.2.2.2.1 bt357.2.2.2.2.2.2.1 bt357.2.2.2.2.2.2.2 bt367.1 bt367.2.1 bt367.2.2.1 bt367.2.2.2.1 bt367.2.2.2.2.1 bt367.2.2.2.2.2.1 bt367.2.2.2.2.2.2.1 bt367.2.2.2.2.2.2.2))) else ((offertorylaw28_awake.f k).bind fun t366 => (if t366 = true then (if bt354.2 = 4 then (some (bt354.1 == 0)) else (none)) else (none))))))) = some r := h
 clear h
 replace H := Option.bind_eq_some_iff.mp H
 obtain ⟨⟨t354, t355⟩, A20, H⟩ := H
 (try dsimp only at H)
 have A2 := Aside0.mk A20
 clear A20
 by_cases c3 : a0_1 < 1
 ·
  rw [if_pos c3] at H
  have c3b0 : decide (a0_1 < 1) = true := decide_eq_true c3
  clear c3
  replace H := Option.bind_eq_some_iff.mp H
  obtain ⟨t356, A40, H⟩ := H
  (try dsimp only at H)
  have A4 := Aside0.mk A40
  clear A40
  by_cases c5 : t356 = true
  ·
   subst c5
   have H1 : (if t355 = 1 then (some (t354 == 0)) else (none)) = some r := by rw [if_pos rfl] at H; exact H
   clear H
   have H := H1
   clear H1
   by_cases c6 : t355 = 1
   ·
    rw [if_pos c6] at H
    have c6b0 : (t355 == 1) = true := beq_iff_eq.mpr c6
    have c6b1 : (t355 != 1) = false := bne_eq_false_iff_eq.mpr c6
    clear c6
    obtain rfl := Option.some.inj H
    go_enter Try.func4, Try.ntmps4
    go_wp2_with (first | ((with_reducible refine gate_dst (N := 1) rfl ?_); refine box_event ?hg (N := 1) ?hd (cs := #[.slice A0_0 l0_0.length c0_0, .int .i64 a0_1, .int .u64 a0_2, .int .u64 a0_3, .int .u64 a0_4, .int .u64 a0_5, .bool a0_6]) (t := 36) ?hr ?_; (case hd => rfl); (case hg => rfl); (case hr => first | (go_simp; done) | (go_simp; rfl)); intro gb353 hg w7 hbox hb; have n0_ := Aside0.mk (below_step (by repeat (first | (with_reducible first | exact HB.out | apply below_alloc | apply pw_below_drewN | apply below_drew1) | exact HB.out)) hb); have n1_ := Aside0.mk (hbox); have n2_ := Aside0.mk ((by rw [hg]; exact (below_size (by repeat (first | (with_reducible first | exact HB.out | apply below_alloc | apply pw_below_drewN | apply below_drew1) | exact HB.out))) : w.heap.size ≤ gb353)); have n3_ := Aside0.mk ((by rw [hg]; exact (below_size (by repeat (first | (with_reducible first | exact HB.out | apply below_alloc | apply pw_below_drewN | apply below_drew1) | exact HB.out))) : w.heap.size ≤ gb353)); clear HB; have HB := n0_; have BK353 := n1_; have GW353 := n2_; have GE353 := n3_; clear n0_ n1_ n2_ n3_; clear hb hbox hg; have hcz8_0 : w7.cell? ⟨gb353, 0, none⟩ = some (.slice A0_0 l0_0.length c0_0) := (blk_cell BK353.out 0).trans rfl; have hcz8_1 : w7.cell? ⟨gb353, 1, none⟩ = some (.int .i64 a0_1) := (blk_cell BK353.out 1).trans rfl; have hcz8_2 : w7.cell? ⟨gb353, 2, none⟩ = some (.int .u64 a0_2) := (blk_cell BK353.out 2).trans rfl; have hcz8_3 : w7.cell? ⟨gb353, 3, none⟩ = some (.int .u64 a0_3) := (blk_cell BK353.out 3).trans rfl; have hcz8_4 : w7.cell? ⟨gb353, 4, none⟩ = some (.int .u64 a0_4) := (blk_cell BK353.out 4).trans rfl; have hcz8_5 : w7.cell? ⟨gb353, 5, none⟩ = some (.int .u64 a0_5) := (blk_cell BK353.out 5).trans rfl; have hcz8_6 : w7.cell? ⟨gb353, 6, none⟩ = some (.bool a0_6) := (blk_cell BK353.out 6).trans rfl; have hfz8_0 := blk_frozen BK353.out 0; have hfz8_1 := blk_frozen BK353.out 1; have hfz8_2 := blk_frozen BK353.out 2; have hfz8_3 := blk_frozen BK353.out 3; have hfz8_4 := blk_frozen BK353.out 4; have hfz8_5 := blk_frozen BK353.out 5; have hfz8_6 := blk_frozen BK353.out 6) | ((with_reducible refine gate_callee (f := 10) rfl ?_); refine goesL_ (some 20) rfl rfl Try.func10 (by kernel_rfl) rfl #[.agg #[.slice A0_0 l0_0.length c0_0, .int .i64 a0_1, .int .u64 a0_2, .int .u64 a0_3, .int .u64 a0_4, .int .u64 a0_5, .bool a0_6]] rfl (by (try simp only [List.map_toArray, List.map_cons, List.map_nil]); first | done | rfl | (simp only [List.length_drop, List.length_take]; rfl)) ?_; (with_reducible refine (rank_Mean.calls k _ _ l0_0 a0_1 a0_2 a0_3 a0_4 a0_5 a0_6 t354 t355 _ ?side1 ?side2 A2.out).mono ?_); (case side1 => repeat (first | exact (Kd.C_below HR0_0.out HB.out) | (with_reducible refine Kd.C_alloc ?_ _) | (with_reducible refine Kd.C_drewN ?_ _) | (with_reducible refine Kd.C_drew ?_))); (case side2 => exact HC0_0.out); rintro e w9 ⟨rfl, hb⟩; refine ⟨_, rfl, ?_⟩; have n0_ := law4B.keepB BK353 hb; have n1_ := Aside0.mk (below_step (by repeat (first | (with_reducible first | exact HB.out | apply below_alloc | apply pw_below_drewN | apply below_drew1 | refine below_set ?_ GE353.out) | exact HB.out)) hb); clear BK353; clear HB; have BK353 := n0_; have HB := n1_; clear n0_ n1_; (try clear hb); (try clear hb2); (try clear hk); (try clear hi); have hcz10_0 : w9.cell? ⟨gb353, 0, none⟩ = some (.slice A0_0 l0_0.length c0_0) := (blk_cell BK353.out 0).trans rfl; have hcz10_1 : w9.cell? ⟨gb353, 1, none⟩ = some (.int .i64 a0_1) := (blk_cell BK353.out 1).trans rfl; have hcz10_2 : w9.cell? ⟨gb353, 2, none⟩ = some (.int .u64 a0_2) := (blk_cell BK353.out 2).trans rfl; have hcz10_3 : w9.cell? ⟨gb353, 3, none⟩ = some (.int .u64 a0_3) := (blk_cell BK353.out 3).trans rfl; have hcz10_4 : w9.cell? ⟨gb353, 4, none⟩ = some (.int .u64 a0_4) := (blk_cell BK353.out 4).trans rfl; have hcz10_5 : w9.cell? ⟨gb353, 5, none⟩ = some (.int .u64 a0_5) := (blk_cell BK353.out 5).trans rfl; have hcz10_6 : w9.cell? ⟨gb353, 6, none⟩ = some (.bool a0_6) := (blk_cell BK353.out 6).trans rfl; have hfz10_0 := blk_frozen BK353.out 0; have hfz10_1 := blk_frozen BK353.out 1; have hfz10_2 := blk_frozen BK353.out 2; have hfz10_3 := blk_frozen BK353.out 3; have hfz10_4 := blk_frozen BK353.out 4; have hfz10_5 := blk_frozen BK353.out 5; have hfz10_6 := blk_frozen BK353.out 6) | ((with_reducible refine gate_callee (f := 8) rfl ?_); refine goesL_ (some 26) rfl rfl Try.func8 (by kernel_rfl) rfl #[] rfl (by (try simp only [List.map_toArray, List.map_cons, List.map_nil]); first | done | rfl | (simp only [List.length_drop, List.length_take]; rfl)) ?_; (with_reducible refine (offertorylaw28_awake.calls k  true _ A4.out).mono ?_); rintro e w11 ⟨rfl, hb⟩; refine ⟨_, rfl, ?_⟩; have n0_ := law4B.keepB BK353 hb; have n1_ := Aside0.mk (below_step (by repeat (first | (with_reducible first | exact HB.out | apply below_alloc | apply pw_below_drewN | apply below_drew1 | refine below_set ?_ GE353.out) | exact HB.out)) hb); clear BK353; clear HB; have BK353 := n0_; have HB := n1_; clear n0_ n1_; (try clear hb); (try clear hb2); (try clear hk); (try clear hi)))
    go_ret
    exact ⟨by first | rfl | (simp [errW_none, errW_some] <;> rfl) | (simp [*, errW_none, errW_some] <;> rfl), by repeat (first | (with_reducible first | exact HB.out | apply below_alloc | apply pw_below_drewN | apply below_drew1 | refine below_set ?_ GE353.out) | exact HB.out)⟩
   ·
    rw [if_neg c6] at H
    exact absurd H (by simp)
  ·
   replace c5 := Bool.eq_false_iff.mpr c5
   subst c5
   have H1 : (none) = some r := by rw [if_neg (show ¬ (false = true) by decide)] at H; exact H
   clear H
   have H := H1
   clear H1
   exact absurd H (by simp)
 ·
  rw [if_neg c3] at H
  have c3b0 : decide (a0_1 < 1) = false := decide_eq_false c3
  clear c3
  replace H := Option.bind_eq_some_iff.mp H
  obtain ⟨⟨t357, t358, t359, t360, t361, t362, t363, t364⟩, A120, H⟩ := H
  (try dsimp only at H)
  have A12 := Aside0.mk A120
  clear A120
  by_cases c13 : (a0_2 / 4611686018427387904) = 0
  ·
   rw [if_pos c13] at H
   have c13b0 : ((a0_2 / 4611686018427387904) == 0) = true := beq_iff_eq.mpr c13
   have c13b1 : ((a0_2 / 4611686018427387904) != 0) = false := bne_eq_false_iff_eq.mpr c13
   clear c13
   replace H := Option.bind_eq_some_iff.mp H
   obtain ⟨⟨t367, t368, t369, t370, t371, t372, t373, t374⟩, A140, H⟩ := H
   (try dsimp only at H)
   have A14 := Aside0.mk A140
   clear A140
   have HC15 := Aside0.mk H
   clear H
   go_enter Try.func4, Try.ntmps4
   go_upto_if 56 with (first | ((with_reducible refine gate_dst (N := 1) rfl ?_); refine box_event ?hg (N := 1) ?hd (cs := #[.slice A0_0 l0_0.length c0_0, .int .i64 a0_1, .int .u64 a0_2, .int .u64 a0_3, .int .u64 a0_4, .int .u64 a0_5, .bool a0_6]) (t := 36) ?hr ?_; (case hd => rfl); (case hg => rfl); (case hr => first | (go_simp; done) | (go_simp; rfl)); intro gb353 hg w16 hbox hb; have n0_ := Aside0.mk (below_step (by repeat (first | (with_reducible first | exact HB.out | apply below_alloc | apply pw_below_drewN | apply below_drew1) | exact HB.out)) hb); have n1_ := Aside0.mk (hbox); have n2_ := Aside0.mk ((by rw [hg]; exact (below_size (by repeat (first | (with_reducible first | exact HB.out | apply below_alloc | apply pw_below_drewN | apply below_drew1) | exact HB.out))) : w.heap.size ≤ gb353)); have n3_ := Aside0.mk ((by rw [hg]; exact (below_size (by repeat (first | (with_reducible first | exact HB.out | apply below_alloc | apply pw_below_drewN | apply below_drew1) | exact HB.out))) : w.heap.size ≤ gb353)); clear HB; have HB := n0_; have BK353 := n1_; have GW353 := n2_; have GE353 := n3_; clear n0_ n1_ n2_ n3_; clear hb hbox hg; have hcz17_0 : w16.cell? ⟨gb353, 0, none⟩ = some (.slice A0_0 l0_0.length c0_0) := (blk_cell BK353.out 0).trans rfl; have hcz17_1 : w16.cell? ⟨gb353, 1, none⟩ = some (.int .i64 a0_1) := (blk_cell BK353.out 1).trans rfl; have hcz17_2 : w16.cell? ⟨gb353, 2, none⟩ = some (.int .u64 a0_2) := (blk_cell BK353.out 2).trans rfl; have hcz17_3 : w16.cell? ⟨gb353, 3, none⟩ = some (.int .u64 a0_3) := (blk_cell BK353.out 3).trans rfl; have hcz17_4 : w16.cell? ⟨gb353, 4, none⟩ = some (.int .u64 a0_4) := (blk_cell BK353.out 4).trans rfl; have hcz17_5 : w16.cell? ⟨gb353, 5, none⟩ = some (.int .u64 a0_5) := (blk_cell BK353.out 5).trans rfl; have hcz17_6 : w16.cell? ⟨gb353, 6, none⟩ = some (.bool a0_6) := (blk_cell BK353.out 6).trans rfl; have hfz17_0 := blk_frozen BK353.out 0; have hfz17_1 := blk_frozen BK353.out 1; have hfz17_2 := blk_frozen BK353.out 2; have hfz17_3 := blk_frozen BK353.out 3; have hfz17_4 := blk_frozen BK353.out 4; have hfz17_5 := blk_frozen BK353.out 5; have hfz17_6 := blk_frozen BK353.out 6) | ((with_reducible refine gate_callee (f := 10) rfl ?_); refine goesL_ (some 20) rfl rfl Try.func10 (by kernel_rfl) rfl #[.agg #[.slice A0_0 l0_0.length c0_0, .int .i64 a0_1, .int .u64 a0_2, .int .u64 a0_3, .int .u64 a0_4, .int .u64 a0_5, .bool a0_6]] rfl (by (try simp only [List.map_toArray, List.map_cons, List.map_nil]); first | done | rfl | (simp only [List.length_drop, List.length_take]; rfl)) ?_; (with_reducible refine (rank_Mean.calls k _ _ l0_0 a0_1 a0_2 a0_3 a0_4 a0_5 a0_6 t354 t355 _ ?side1 ?side2 A2.out).mono ?_); (case side1 => repeat (first | exact (Kd.C_below HR0_0.out HB.out) | (with_reducible refine Kd.C_alloc ?_ _) | (with_reducible refine Kd.C_drewN ?_ _) | (with_reducible refine Kd.C_drew ?_))); (case side2 => exact HC0_0.out); rintro e w18 ⟨rfl, hb⟩; refine ⟨_, rfl, ?_⟩; have n0_ := law4B.keepB BK353 hb; have n1_ := Aside0.mk (below_step (by repeat (first | (with_reducible first | exact HB.out | apply below_alloc | apply pw_below_drewN | apply below_drew1 | refine below_set ?_ GE353.out) | exact HB.out)) hb); clear BK353; clear HB; have BK353 := n0_; have HB := n1_; clear n0_ n1_; (try clear hb); (try clear hb2); (try clear hk); (try clear hi); have hcz19_0 : w18.cell? ⟨gb353, 0, none⟩ = some (.slice A0_0 l0_0.length c0_0) := (blk_cell BK353.out 0).trans rfl; have hcz19_1 : w18.cell? ⟨gb353, 1, none⟩ = some (.int .i64 a0_1) := (blk_cell BK353.out 1).trans rfl; have hcz19_2 : w18.cell? ⟨gb353, 2, none⟩ = some (.int .u64 a0_2) := (blk_cell BK353.out 2).trans rfl; have hcz19_3 : w18.cell? ⟨gb353, 3, none⟩ = some (.int .u64 a0_3) := (blk_cell BK353.out 3).trans rfl; have hcz19_4 : w18.cell? ⟨gb353, 4, none⟩ = some (.int .u64 a0_4) := (blk_cell BK353.out 4).trans rfl; have hcz19_5 : w18.cell? ⟨gb353, 5, none⟩ = some (.int .u64 a0_5) := (blk_cell BK353.out 5).trans rfl; have hcz19_6 : w18.cell? ⟨gb353, 6, none⟩ = some (.bool a0_6) := (blk_cell BK353.out 6).trans rfl; have hfz19_0 := blk_frozen BK353.out 0; have hfz19_1 := blk_frozen BK353.out 1; have hfz19_2 := blk_frozen BK353.out 2; have hfz19_3 := blk_frozen BK353.out 3; have hfz19_4 := blk_frozen BK353.out 4; have hfz19_5 := blk_frozen BK353.out 5; have hfz19_6 := blk_frozen BK353.out 6) | ((with_reducible refine gate_callee (f := 11) rfl ?_); refine goesL_ (some 37) rfl rfl Try.func11 (by kernel_rfl) rfl #[.int .i64 a0_1] rfl (by (try simp only [List.map_toArray, List.map_cons, List.map_nil]); first | done | rfl | (simp only [List.length_drop, List.length_take]; rfl)) ?_; (with_reducible refine (offertoryref09_Int.calls a0_1 t357 t358 t359 t360 t361 t362 t363 t364 _ A12.out).mono ?_); rintro e w20 ⟨rfl, hb⟩; refine ⟨_, rfl, ?_⟩; have n0_ := law4B.keepB BK353 hb; have n1_ := Aside0.mk (below_step (by repeat (first | (with_reducible first | exact HB.out | apply below_alloc | apply pw_below_drewN | apply below_drew1 | refine below_set ?_ GE353.out) | exact HB.out)) hb); clear BK353; clear HB; have BK353 := n0_; have HB := n1_; clear n0_ n1_; (try clear hb); (try clear hb2); (try clear hk); (try clear hi)) | ((with_reducible refine gate_dst (N := 5) rfl ?_); refine box_event ?hg (N := 5) ?hd (cs := #[.int .u32 0, .int .u32 0, .int .u32 0, .int .u32 0, .int .u32 0, .int .u32 0, .int .u32 0, .int .u32 0]) (t := 41) ?hr ?_; (case hd => rfl); (case hg => rfl); (case hr => first | (go_simp; done) | (go_simp; rfl)); intro gb365 hg w21 hbox hb; have n0_ := law4B.keepB BK353 hb; have n1_ := Aside0.mk (below_step (by repeat (first | (with_reducible first | exact HB.out | apply below_alloc | apply pw_below_drewN | apply below_drew1 | refine below_set ?_ GE353.out) | exact HB.out)) hb); have n2_ := Aside0.mk (hbox); have n3_ := Aside0.mk ((by rw [hg]; exact (below_size (by repeat (first | (with_reducible first | exact HB.out | apply below_alloc | apply pw_below_drewN | apply below_drew1 | refine below_set ?_ GE353.out) | exact HB.out))) : w.heap.size ≤ gb365)); have n4_ := Aside0.mk ((by rw [hg]; exact (below_size (by repeat (first | (with_reducible first | exact HB.out | apply below_alloc | apply pw_below_drewN | apply below_drew1 | refine below_set ?_ GE353.out) | exact HB.out))) : w.heap.size ≤ gb365)); have n5_ := law4B.neL BK353 hg; have n6_ := law4B.neG BK353 hg; clear BK353; clear HB; have BK353 := n0_; have HB := n1_; have BK365 := n2_; have GW365 := n3_; have GE365 := n4_; have NB353_365 := n5_; have NB365_353 := n6_; clear n0_ n1_ n2_ n3_ n4_ n5_ n6_; clear hb hbox hg; have hnb22 := NB365_353.out; have hnc22 := NB353_365.out; have hcz23_0 : w21.cell? ⟨gb365, 0, none⟩ = some (.int .u32 0) := (blk_cell BK365.out 0).trans rfl; have hcz23_1 : w21.cell? ⟨gb365, 1, none⟩ = some (.int .u32 0) := (blk_cell BK365.out 1).trans rfl; have hcz23_2 : w21.cell? ⟨gb365, 2, none⟩ = some (.int .u32 0) := (blk_cell BK365.out 2).trans rfl; have hcz23_3 : w21.cell? ⟨gb365, 3, none⟩ = some (.int .u32 0) := (blk_cell BK365.out 3).trans rfl; have hcz23_4 : w21.cell? ⟨gb365, 4, none⟩ = some (.int .u32 0) := (blk_cell BK365.out 4).trans rfl; have hcz23_5 : w21.cell? ⟨gb365, 5, none⟩ = some (.int .u32 0) := (blk_cell BK365.out 5).trans rfl; have hcz23_6 : w21.cell? ⟨gb365, 6, none⟩ = some (.int .u32 0) := (blk_cell BK365.out 6).trans rfl; have hcz23_7 : w21.cell? ⟨gb365, 7, none⟩ = some (.int .u32 0) := (blk_cell BK365.out 7).trans rfl; have hfz23_0 := blk_frozen BK365.out 0; have hfz23_1 := blk_frozen BK365.out 1; have hfz23_2 := blk_frozen BK365.out 2; have hfz23_3 := blk_frozen BK365.out 3; have hfz23_4 := blk_frozen BK365.out 4; have hfz23_5 := blk_frozen BK365.out 5; have hfz23_6 := blk_frozen BK365.out 6; have hfz23_7 := blk_frozen BK365.out 7; have hcz24_0 : w21.cell? ⟨gb353, 0, none⟩ = some (.slice A0_0 l0_0.length c0_0) := (blk_cell BK353.out 0).trans rfl; have hcz24_1 : w21.cell? ⟨gb353, 1, none⟩ = some (.int .i64 a0_1) := (blk_cell BK353.out 1).trans rfl; have hcz24_2 : w21.cell? ⟨gb353, 2, none⟩ = some (.int .u64 a0_2) := (blk_cell BK353.out 2).trans rfl; have hcz24_3 : w21.cell? ⟨gb353, 3, none⟩ = some (.int .u64 a0_3) := (blk_cell BK353.out 3).trans rfl; have hcz24_4 : w21.cell? ⟨gb353, 4, none⟩ = some (.int .u64 a0_4) := (blk_cell BK353.out 4).trans rfl; have hcz24_5 : w21.cell? ⟨gb353, 5, none⟩ = some (.int .u64 a0_5) := (blk_cell BK353.out 5).trans rfl; have hcz24_6 : w21.cell? ⟨gb353, 6, none⟩ = some (.bool a0_6) := (blk_cell BK353.out 6).trans rfl; have hfz24_0 := blk_frozen BK353.out 0; have hfz24_1 := blk_frozen BK353.out 1; have hfz24_2 := blk_frozen BK353.out 2; have hfz24_3 := blk_frozen BK353.out 3; have hfz24_4 := blk_frozen BK353.out 4; have hfz24_5 := blk_frozen BK353.out 5; have hfz24_6 := blk_frozen BK353.out 6) | ((with_reducible refine gate_callee (f := 12) rfl ?_); refine goesL_ (some 54) rfl rfl Try.func12 (by kernel_rfl) rfl #[.agg #[.int .u64 a0_2, .int .u64 a0_3]] rfl (by (try simp only [List.map_toArray, List.map_cons, List.map_nil]); first | done | rfl | (simp only [List.length_drop, List.length_take]; rfl)) ?_; (with_reducible refine (offertoryref09_Of.calls a0_2 a0_3 t367 t368 t369 t370 t371 t372 t373 t374 _ A14.out).mono ?_); rintro e w25 ⟨rfl, hb⟩; refine ⟨_, rfl, ?_⟩; have n0_ := Aside0.mk (blk_below (g := gb353) (o := .cells #[.slice A0_0 l0_0.length c0_0, .int .i64 a0_1, .int .u64 a0_2, .int .u64 a0_3, .int .u64 a0_4, .int .u64 a0_5, .bool a0_6] 36 (0, 0)) (by (repeat (first | (with_reducible first | refine blk_drewN ?_ _ | refine blk_drew ?_ | refine blk_alloc ?_ _) | refine blk_far ?_ NB353_365.out _)); (with_reducible repeat (first | refine blk_drewN ?_ _ | refine blk_drew ?_ | refine blk_alloc ?_ _)); exact BK353.out) hb); have n1_ := Aside0.mk (blk_below (g := gb365) (o := .cells #[.int .u32 t357, .int .u32 t358, .int .u32 t359, .int .u32 t360, .int .u32 t361, .int .u32 t362, .int .u32 t363, .int .u32 t364] 41 (0, 0)) (by (with_reducible repeat (first | refine blk_drewN ?_ _ | refine blk_drew ?_ | refine blk_alloc ?_ _)); refine blk_put (cs := #[.int .u32 t357, .int .u32 t358, .int .u32 t359, .int .u32 t360, .int .u32 t361, .int .u32 t362, .int .u32 t363, .int .u32 0]) ?_ 7 _ rfl; (with_reducible repeat (first | refine blk_drewN ?_ _ | refine blk_drew ?_ | refine blk_alloc ?_ _)); refine blk_put (cs := #[.int .u32 t357, .int .u32 t358, .int .u32 t359, .int .u32 t360, .int .u32 t361, .int .u32 t362, .int .u32 0, .int .u32 0]) ?_ 6 _ rfl; (with_reducible repeat (first | refine blk_drewN ?_ _ | refine blk_drew ?_ | refine blk_alloc ?_ _)); refine blk_put (cs := #[.int .u32 t357, .int .u32 t358, .int .u32 t359, .int .u32 t360, .int .u32 t361, .int .u32 0, .int .u32 0, .int .u32 0]) ?_ 5 _ rfl; (with_reducible repeat (first | refine blk_drewN ?_ _ | refine blk_drew ?_ | refine blk_alloc ?_ _)); refine blk_put (cs := #[.int .u32 t357, .int .u32 t358, .int .u32 t359, .int .u32 t360, .int .u32 0, .int .u32 0, .int .u32 0, .int .u32 0]) ?_ 4 _ rfl; (with_reducible repeat (first | refine blk_drewN ?_ _ | refine blk_drew ?_ | refine blk_alloc ?_ _)); refine blk_put (cs := #[.int .u32 t357, .int .u32 t358, .int .u32 t359, .int .u32 0, .int .u32 0, .int .u32 0, .int .u32 0, .int .u32 0]) ?_ 3 _ rfl; (with_reducible repeat (first | refine blk_drewN ?_ _ | refine blk_drew ?_ | refine blk_alloc ?_ _)); refine blk_put (cs := #[.int .u32 t357, .int .u32 t358, .int .u32 0, .int .u32 0, .int .u32 0, .int .u32 0, .int .u32 0, .int .u32 0]) ?_ 2 _ rfl; (with_reducible repeat (first | refine blk_drewN ?_ _ | refine blk_drew ?_ | refine blk_alloc ?_ _)); refine blk_put (cs := #[.int .u32 t357, .int .u32 0, .int .u32 0, .int .u32 0, .int .u32 0, .int .u32 0, .int .u32 0, .int .u32 0]) ?_ 1 _ rfl; (with_reducible repeat (first | refine blk_drewN ?_ _ | refine blk_drew ?_ | refine blk_alloc ?_ _)); refine blk_put (cs := #[.int .u32 0, .int .u32 0, .int .u32 0, .int .u32 0, .int .u32 0, .int .u32 0, .int .u32 0, .int .u32 0]) ?_ 0 _ rfl; (with_reducible repeat (first | refine blk_drewN ?_ _ | refine blk_drew ?_ | refine blk_alloc ?_ _)); exact BK365.out) hb); have n2_ := Aside0.mk (below_step (by repeat (first | (with_reducible first | exact HB.out | apply below_alloc | apply pw_below_drewN | apply below_drew1 | refine below_set ?_ GE353.out | refine below_set ?_ GE365.out) | exact HB.out)) hb); clear BK353; clear BK365; clear HB; have BK353 := n0_; have BK365 := n1_; have HB := n2_; clear n0_ n1_ n2_; (try clear hb); (try clear hb2); (try clear hk); (try clear hi)) | ((with_reducible refine gate_dst (N := 6) rfl ?_); refine box_event ?hg (N := 6) ?hd (cs := #[.int .u32 0, .int .u32 0, .int .u32 0, .int .u32 0, .int .u32 0, .int .u32 0, .int .u32 0, .int .u32 0]) (t := 41) ?hr ?_; (case hd => rfl); (case hg => rfl); (case hr => first | (go_simp; done) | (go_simp; rfl)); intro gb375 hg w26 hbox hb; have n0_ := law4B.keepB BK353 hb; have n1_ := law4B.keepB BK365 hb; have n2_ := Aside0.mk (below_step (by repeat (first | (with_reducible first | exact HB.out | apply below_alloc | apply pw_below_drewN | apply below_drew1 | refine below_set ?_ GE353.out | refine below_set ?_ GE365.out) | exact HB.out)) hb); have n3_ := Aside0.mk (hbox); have n4_ := Aside0.mk ((by rw [hg]; exact (below_size (by repeat (first | (with_reducible first | exact HB.out | apply below_alloc | apply pw_below_drewN | apply below_drew1 | refine below_set ?_ GE353.out | refine below_set ?_ GE365.out) | exact HB.out))) : w.heap.size ≤ gb375)); have n5_ := Aside0.mk ((by rw [hg]; exact (below_size (by repeat (first | (with_reducible first | exact HB.out | apply below_alloc | apply pw_below_drewN | apply below_drew1 | refine below_set ?_ GE353.out | refine below_set ?_ GE365.out) | exact HB.out))) : w.heap.size ≤ gb375)); have n6_ := law4B.neL BK353 hg; have n7_ := law4B.neG BK353 hg; have n8_ := law4B.neL BK365 hg; have n9_ := law4B.neG BK365 hg; clear BK353; clear BK365; clear HB; have BK353 := n0_; have BK365 := n1_; have HB := n2_; have BK375 := n3_; have GW375 := n4_; have GE375 := n5_; have NB353_375 := n6_; have NB375_353 := n7_; have NB365_375 := n8_; have NB375_365 := n9_; clear n0_ n1_ n2_ n3_ n4_ n5_ n6_ n7_ n8_ n9_; clear hb hbox hg; have hnb27 := NB375_353.out; have hnc27 := NB353_375.out; have hnb28 := NB375_365.out; have hnc28 := NB365_375.out; have hcz29_0 : w26.cell? ⟨gb375, 0, none⟩ = some (.int .u32 0) := (blk_cell BK375.out 0).trans rfl; have hcz29_1 : w26.cell? ⟨gb375, 1, none⟩ = some (.int .u32 0) := (blk_cell BK375.out 1).trans rfl; have hcz29_2 : w26.cell? ⟨gb375, 2, none⟩ = some (.int .u32 0) := (blk_cell BK375.out 2).trans rfl; have hcz29_3 : w26.cell? ⟨gb375, 3, none⟩ = some (.int .u32 0) := (blk_cell BK375.out 3).trans rfl; have hcz29_4 : w26.cell? ⟨gb375, 4, none⟩ = some (.int .u32 0) := (blk_cell BK375.out 4).trans rfl; have hcz29_5 : w26.cell? ⟨gb375, 5, none⟩ = some (.int .u32 0) := (blk_cell BK375.out 5).trans rfl; have hcz29_6 : w26.cell? ⟨gb375, 6, none⟩ = some (.int .u32 0) := (blk_cell BK375.out 6).trans rfl; have hcz29_7 : w26.cell? ⟨gb375, 7, none⟩ = some (.int .u32 0) := (blk_cell BK375.out 7).trans rfl; have hfz29_0 := blk_frozen BK375.out 0; have hfz29_1 := blk_frozen BK375.out 1; have hfz29_2 := blk_frozen BK375.out 2; have hfz29_3 := blk_frozen BK375.out 3; have hfz29_4 := blk_frozen BK375.out 4; have hfz29_5 := blk_frozen BK375.out 5; have hfz29_6 := blk_frozen BK375.out 6; have hfz29_7 := blk_frozen BK375.out 7; have hcz30_0 : w26.cell? ⟨gb353, 0, none⟩ = some (.slice A0_0 l0_0.length c0_0) := (blk_cell BK353.out 0).trans rfl; have hcz30_1 : w26.cell? ⟨gb353, 1, none⟩ = some (.int .i64 a0_1) := (blk_cell BK353.out 1).trans rfl; have hcz30_2 : w26.cell? ⟨gb353, 2, none⟩ = some (.int .u64 a0_2) := (blk_cell BK353.out 2).trans rfl; have hcz30_3 : w26.cell? ⟨gb353, 3, none⟩ = some (.int .u64 a0_3) := (blk_cell BK353.out 3).trans rfl; have hcz30_4 : w26.cell? ⟨gb353, 4, none⟩ = some (.int .u64 a0_4) := (blk_cell BK353.out 4).trans rfl; have hcz30_5 : w26.cell? ⟨gb353, 5, none⟩ = some (.int .u64 a0_5) := (blk_cell BK353.out 5).trans rfl; have hcz30_6 : w26.cell? ⟨gb353, 6, none⟩ = some (.bool a0_6) := (blk_cell BK353.out 6).trans rfl; have hfz30_0 := blk_frozen BK353.out 0; have hfz30_1 := blk_frozen BK353.out 1; have hfz30_2 := blk_frozen BK353.out 2; have hfz30_3 := blk_frozen BK353.out 3; have hfz30_4 := blk_frozen BK353.out 4; have hfz30_5 := blk_frozen BK353.out 5; have hfz30_6 := blk_frozen BK353.out 6))
   (try simp only [Act.put, List.setIfInBounds_toArray, List.set_cons_zero, List.set_cons_succ])
   go_cut [] (fun wc => ∃ (kq : Nat) (x376000_14 : Int) (x376001_14 : Int) (x376002_14 : Int) (x376003_14 : Int) (x376004_14 : Int) (x376005_14 : Int) (x376006_14 : Int) (x376007_14 : Int), Aside0 (law4B.j0 kq t354 t355 l0_0 a0_1 a0_2 a0_3 a0_4 a0_5 a0_6 t357 t358 t359 t360 t361 t362 t363 t364 x376000_14 x376001_14 x376002_14 x376003_14 x376004_14 x376005_14 x376006_14 x376007_14 = some r) ∧ Aside0 (kq ≤ k) ∧ Aside0 (wc.heap[gb353]? = some (.cells #[(.slice A0_0 l0_0.length c0_0), .int .i64 a0_1, .int .u64 a0_2, .int .u64 a0_3, .int .u64 a0_4, .int .u64 a0_5, .bool a0_6] 36 (0, 0))) ∧ Aside0 (wc.heap[gb365]? = some (.cells #[.int .u32 t357, .int .u32 t358, .int .u32 t359, .int .u32 t360, .int .u32 t361, .int .u32 t362, .int .u32 t363, .int .u32 t364] 41 (0, 0))) ∧ Aside0 (wc.heap[gb375]? = some (.cells #[.int .u32 x376000_14, .int .u32 x376001_14, .int .u32 x376002_14, .int .u32 x376003_14, .int .u32 x376004_14, .int .u32 x376005_14, .int .u32 x376006_14, .int .u32 x376007_14] 41 (0, 0))) ∧ Aside0 (Below w.heap.size w wc))
   case first =>
    have H := HC15.out
    clear HC15
    by_cases c31 : a0_6 = true
    ·
     subst c31
     have H1 : ((offertoryref09_Neg.f t367 t368 t369 t370 t371 t372 t373 t374).bind fun bt376 => (law4B.j0 k t354 t355 l0_0 a0_1 a0_2 a0_3 a0_4 a0_5 true t357 t358 t359 t360 t361 t362 t363 t364 bt376.1 bt376.2.1 bt376.2.2.1 bt376.2.2.2.1 bt376.2.2.2.2.1 bt376.2.2.2.2.2.1 bt376.2.2.2.2.2.2.1 bt376.2.2.2.2.2.2.2)) = some r := by rw [if_pos rfl] at H; exact H
     clear H
     have H := H1
     clear H1
     replace H := Option.bind_eq_some_iff.mp H
     obtain ⟨⟨t376, t377, t378, t379, t380, t381, t382, t383⟩, A320, H⟩ := H
     (try dsimp only at H)
     have A32 := Aside0.mk A320
     clear A320
     have H' := Aside0.mk H
     clear H
     have hnb33 := NB375_353.out
     have hnc33 := NB353_375.out
     have hnb34 := NB375_365.out
     have hnc34 := NB365_375.out
     have hcz35_0 : w26.cell? ⟨gb375, 0, none⟩ = some (.int .u32 0) := (blk_cell BK375.out 0).trans rfl
     have hcz35_1 : w26.cell? ⟨gb375, 1, none⟩ = some (.int .u32 0) := (blk_cell BK375.out 1).trans rfl
     have hcz35_2 : w26.cell? ⟨gb375, 2, none⟩ = some (.int .u32 0) := (blk_cell BK375.out 2).trans rfl
     have hcz35_3 : w26.cell? ⟨gb375, 3, none⟩ = some (.int .u32 0) := (blk_cell BK375.out 3).trans rfl
     have hcz35_4 : w26.cell? ⟨gb375, 4, none⟩ = some (.int .u32 0) := (blk_cell BK375.out 4).trans rfl
     have hcz35_5 : w26.cell? ⟨gb375, 5, none⟩ = some (.int .u32 0) := (blk_cell BK375.out 5).trans rfl
     have hcz35_6 : w26.cell? ⟨gb375, 6, none⟩ = some (.int .u32 0) := (blk_cell BK375.out 6).trans rfl
     have hcz35_7 : w26.cell? ⟨gb375, 7, none⟩ = some (.int .u32 0) := (blk_cell BK375.out 7).trans rfl
     have hfz35_0 := blk_frozen BK375.out 0
     have hfz35_1 := blk_frozen BK375.out 1
     have hfz35_2 := blk_frozen BK375.out 2
     have hfz35_3 := blk_frozen BK375.out 3
     have hfz35_4 := blk_frozen BK375.out 4
     have hfz35_5 := blk_frozen BK375.out 5
     have hfz35_6 := blk_frozen BK375.out 6
     have hfz35_7 := blk_frozen BK375.out 7
     go_wp2_with (first | ((with_reducible refine gate_callee (f := 13) rfl ?_); refine goesL_ (some 58) rfl rfl Try.func13 (by kernel_rfl) rfl #[.agg #[.int .u32 t367, .int .u32 t368, .int .u32 t369, .int .u32 t370, .int .u32 t371, .int .u32 t372, .int .u32 t373, .int .u32 t374]] rfl (by (try simp only [List.map_toArray, List.map_cons, List.map_nil]); first | done | rfl | (simp only [List.length_drop, List.length_take]; rfl)) ?_; (with_reducible refine (offertoryref09_Neg.calls t367 t368 t369 t370 t371 t372 t373 t374 t376 t377 t378 t379 t380 t381 t382 t383 _ A32.out).mono ?_); rintro e w36 ⟨rfl, hb⟩; refine ⟨_, rfl, ?_⟩; have n0_ := Aside0.mk (blk_below (g := gb353) (o := .cells #[.slice A0_0 l0_0.length c0_0, .int .i64 a0_1, .int .u64 a0_2, .int .u64 a0_3, .int .u64 a0_4, .int .u64 a0_5, .bool true] 36 (0, 0)) (by (repeat (first | (with_reducible first | refine blk_drewN ?_ _ | refine blk_drew ?_ | refine blk_alloc ?_ _) | refine blk_far ?_ NB353_375.out _)); (with_reducible repeat (first | refine blk_drewN ?_ _ | refine blk_drew ?_ | refine blk_alloc ?_ _)); exact BK353.out) hb); have n1_ := Aside0.mk (blk_below (g := gb365) (o := .cells #[.int .u32 t357, .int .u32 t358, .int .u32 t359, .int .u32 t360, .int .u32 t361, .int .u32 t362, .int .u32 t363, .int .u32 t364] 41 (0, 0)) (by (repeat (first | (with_reducible first | refine blk_drewN ?_ _ | refine blk_drew ?_ | refine blk_alloc ?_ _) | refine blk_far ?_ NB365_375.out _)); (with_reducible repeat (first | refine blk_drewN ?_ _ | refine blk_drew ?_ | refine blk_alloc ?_ _)); exact BK365.out) hb); have n2_ := Aside0.mk (blk_below (g := gb375) (o := .cells #[.int .u32 t367, .int .u32 t368, .int .u32 t369, .int .u32 t370, .int .u32 t371, .int .u32 t372, .int .u32 t373, .int .u32 t374] 41 (0, 0)) (by (with_reducible repeat (first | refine blk_drewN ?_ _ | refine blk_drew ?_ | refine blk_alloc ?_ _)); refine blk_put (cs := #[.int .u32 t367, .int .u32 t368, .int .u32 t369, .int .u32 t370, .int .u32 t371, .int .u32 t372, .int .u32 t373, .int .u32 0]) ?_ 7 _ rfl; (with_reducible repeat (first | refine blk_drewN ?_ _ | refine blk_drew ?_ | refine blk_alloc ?_ _)); refine blk_put (cs := #[.int .u32 t367, .int .u32 t368, .int .u32 t369, .int .u32 t370, .int .u32 t371, .int .u32 t372, .int .u32 0, .int .u32 0]) ?_ 6 _ rfl; (with_reducible repeat (first | refine blk_drewN ?_ _ | refine blk_drew ?_ | refine blk_alloc ?_ _)); refine blk_put (cs := #[.int .u32 t367, .int .u32 t368, .int .u32 t369, .int .u32 t370, .int .u32 t371, .int .u32 0, .int .u32 0, .int .u32 0]) ?_ 5 _ rfl; (with_reducible repeat (first | refine blk_drewN ?_ _ | refine blk_drew ?_ | refine blk_alloc ?_ _)); refine blk_put (cs := #[.int .u32 t367, .int .u32 t368, .int .u32 t369, .int .u32 t370, .int .u32 0, .int .u32 0, .int .u32 0, .int .u32 0]) ?_ 4 _ rfl; (with_reducible repeat (first | refine blk_drewN ?_ _ | refine blk_drew ?_ | refine blk_alloc ?_ _)); refine blk_put (cs := #[.int .u32 t367, .int .u32 t368, .int .u32 t369, .int .u32 0, .int .u32 0, .int .u32 0, .int .u32 0, .int .u32 0]) ?_ 3 _ rfl; (with_reducible repeat (first | refine blk_drewN ?_ _ | refine blk_drew ?_ | refine blk_alloc ?_ _)); refine blk_put (cs := #[.int .u32 t367, .int .u32 t368, .int .u32 0, .int .u32 0, .int .u32 0, .int .u32 0, .int .u32 0, .int .u32 0]) ?_ 2 _ rfl; (with_reducible repeat (first | refine blk_drewN ?_ _ | refine blk_drew ?_ | refine blk_alloc ?_ _)); refine blk_put (cs := #[.int .u32 t367, .int .u32 0, .int .u32 0, .int .u32 0, .int .u32 0, .int .u32 0, .int .u32 0, .int .u32 0]) ?_ 1 _ rfl; (with_reducible repeat (first | refine blk_drewN ?_ _ | refine blk_drew ?_ | refine blk_alloc ?_ _)); refine blk_put (cs := #[.int .u32 0, .int .u32 0, .int .u32 0, .int .u32 0, .int .u32 0, .int .u32 0, .int .u32 0, .int .u32 0]) ?_ 0 _ rfl; (with_reducible repeat (first | refine blk_drewN ?_ _ | refine blk_drew ?_ | refine blk_alloc ?_ _)); exact BK375.out) hb); have n3_ := Aside0.mk (below_step (by repeat (first | (with_reducible first | exact HB.out | apply below_alloc | apply pw_below_drewN | apply below_drew1 | refine below_set ?_ GE353.out | refine below_set ?_ GE365.out | refine below_set ?_ GE375.out) | exact HB.out)) hb); clear BK353; clear BK365; clear BK375; clear HB; have BK353 := n0_; have BK365 := n1_; have BK375 := n2_; have HB := n3_; clear n0_ n1_ n2_ n3_; (try clear hb); (try clear hb2); (try clear hk); (try clear hi); have hcz37_0 : w36.cell? ⟨gb375, 0, none⟩ = some (.int .u32 t367) := (blk_cell BK375.out 0).trans rfl; have hcz37_1 : w36.cell? ⟨gb375, 1, none⟩ = some (.int .u32 t368) := (blk_cell BK375.out 1).trans rfl; have hcz37_2 : w36.cell? ⟨gb375, 2, none⟩ = some (.int .u32 t369) := (blk_cell BK375.out 2).trans rfl; have hcz37_3 : w36.cell? ⟨gb375, 3, none⟩ = some (.int .u32 t370) := (blk_cell BK375.out 3).trans rfl; have hcz37_4 : w36.cell? ⟨gb375, 4, none⟩ = some (.int .u32 t371) := (blk_cell BK375.out 4).trans rfl; have hcz37_5 : w36.cell? ⟨gb375, 5, none⟩ = some (.int .u32 t372) := (blk_cell BK375.out 5).trans rfl; have hcz37_6 : w36.cell? ⟨gb375, 6, none⟩ = some (.int .u32 t373) := (blk_cell BK375.out 6).trans rfl; have hcz37_7 : w36.cell? ⟨gb375, 7, none⟩ = some (.int .u32 t374) := (blk_cell BK375.out 7).trans rfl; have hfz37_0 := blk_frozen BK375.out 0; have hfz37_1 := blk_frozen BK375.out 1; have hfz37_2 := blk_frozen BK375.out 2; have hfz37_3 := blk_frozen BK375.out 3; have hfz37_4 := blk_frozen BK375.out 4; have hfz37_5 := blk_frozen BK375.out 5; have hfz37_6 := blk_frozen BK375.out 6; have hfz37_7 := blk_frozen BK375.out 7))
     go_meet
     case rel => exact ⟨_, (t376), (t377), (t378), (t379), (t380), (t381), (t382), (t383), H', ⟨by first | omega | exact Nat.le_refl _⟩, ⟨by (repeat (first | (with_reducible first | refine blk_drewN ?_ _ | refine blk_drew ?_ | refine blk_alloc ?_ _) | refine blk_far ?_ NB353_375.out _)); (with_reducible repeat (first | refine blk_drewN ?_ _ | refine blk_drew ?_ | refine blk_alloc ?_ _)); exact BK353.out⟩, ⟨by (repeat (first | (with_reducible first | refine blk_drewN ?_ _ | refine blk_drew ?_ | refine blk_alloc ?_ _) | refine blk_far ?_ NB365_375.out _)); (with_reducible repeat (first | refine blk_drewN ?_ _ | refine blk_drew ?_ | refine blk_alloc ?_ _)); exact BK365.out⟩, ⟨by (with_reducible repeat (first | refine blk_drewN ?_ _ | refine blk_drew ?_ | refine blk_alloc ?_ _)); refine blk_put (cs := #[.int .u32 t376, .int .u32 t377, .int .u32 t378, .int .u32 t379, .int .u32 t380, .int .u32 t381, .int .u32 t382, .int .u32 t374]) ?_ 7 _ rfl; (with_reducible repeat (first | refine blk_drewN ?_ _ | refine blk_drew ?_ | refine blk_alloc ?_ _)); refine blk_put (cs := #[.int .u32 t376, .int .u32 t377, .int .u32 t378, .int .u32 t379, .int .u32 t380, .int .u32 t381, .int .u32 t373, .int .u32 t374]) ?_ 6 _ rfl; (with_reducible repeat (first | refine blk_drewN ?_ _ | refine blk_drew ?_ | refine blk_alloc ?_ _)); refine blk_put (cs := #[.int .u32 t376, .int .u32 t377, .int .u32 t378, .int .u32 t379, .int .u32 t380, .int .u32 t372, .int .u32 t373, .int .u32 t374]) ?_ 5 _ rfl; (with_reducible repeat (first | refine blk_drewN ?_ _ | refine blk_drew ?_ | refine blk_alloc ?_ _)); refine blk_put (cs := #[.int .u32 t376, .int .u32 t377, .int .u32 t378, .int .u32 t379, .int .u32 t371, .int .u32 t372, .int .u32 t373, .int .u32 t374]) ?_ 4 _ rfl; (with_reducible repeat (first | refine blk_drewN ?_ _ | refine blk_drew ?_ | refine blk_alloc ?_ _)); refine blk_put (cs := #[.int .u32 t376, .int .u32 t377, .int .u32 t378, .int .u32 t370, .int .u32 t371, .int .u32 t372, .int .u32 t373, .int .u32 t374]) ?_ 3 _ rfl; (with_reducible repeat (first | refine blk_drewN ?_ _ | refine blk_drew ?_ | refine blk_alloc ?_ _)); refine blk_put (cs := #[.int .u32 t376, .int .u32 t377, .int .u32 t369, .int .u32 t370, .int .u32 t371, .int .u32 t372, .int .u32 t373, .int .u32 t374]) ?_ 2 _ rfl; (with_reducible repeat (first | refine blk_drewN ?_ _ | refine blk_drew ?_ | refine blk_alloc ?_ _)); refine blk_put (cs := #[.int .u32 t376, .int .u32 t368, .int .u32 t369, .int .u32 t370, .int .u32 t371, .int .u32 t372, .int .u32 t373, .int .u32 t374]) ?_ 1 _ rfl; (with_reducible repeat (first | refine blk_drewN ?_ _ | refine blk_drew ?_ | refine blk_alloc ?_ _)); refine blk_put (cs := #[.int .u32 t367, .int .u32 t368, .int .u32 t369, .int .u32 t370, .int .u32 t371, .int .u32 t372, .int .u32 t373, .int .u32 t374]) ?_ 0 _ rfl; (with_reducible repeat (first | refine blk_drewN ?_ _ | refine blk_drew ?_ | refine blk_alloc ?_ _)); exact BK375.out⟩, ⟨by repeat (first | (with_reducible first | exact HB.out | apply below_alloc | apply pw_below_drewN | apply below_drew1 | refine below_set ?_ GE353.out | refine below_set ?_ GE365.out | refine below_set ?_ GE375.out) | exact HB.out)⟩⟩
    ·
     replace c31 := Bool.eq_false_iff.mpr c31
     subst c31
     have H1 : (law4B.j0 k t354 t355 l0_0 a0_1 a0_2 a0_3 a0_4 a0_5 false t357 t358 t359 t360 t361 t362 t363 t364 t367 t368 t369 t370 t371 t372 t373 t374) = some r := by rw [if_neg (show ¬ (false = true) by decide)] at H; exact H
     clear H
     have H := H1
     clear H1
     have H' := Aside0.mk H
     clear H
     go_wp2
     go_meet
     case rel => exact ⟨_, (t367), (t368), (t369), (t370), (t371), (t372), (t373), (t374), H', ⟨by first | omega | exact Nat.le_refl _⟩, ⟨by (repeat (first | (with_reducible first | refine blk_drewN ?_ _ | refine blk_drew ?_ | refine blk_alloc ?_ _) | refine blk_far ?_ NB353_375.out _)); (with_reducible repeat (first | refine blk_drewN ?_ _ | refine blk_drew ?_ | refine blk_alloc ?_ _)); exact BK353.out⟩, ⟨by (repeat (first | (with_reducible first | refine blk_drewN ?_ _ | refine blk_drew ?_ | refine blk_alloc ?_ _) | refine blk_far ?_ NB365_375.out _)); (with_reducible repeat (first | refine blk_drewN ?_ _ | refine blk_drew ?_ | refine blk_alloc ?_ _)); exact BK365.out⟩, ⟨by (with_reducible repeat (first | refine blk_drewN ?_ _ | refine blk_drew ?_ | refine blk_alloc ?_ _)); refine blk_put (cs := #[.int .u32 t367, .int .u32 t368, .int .u32 t369, .int .u32 t370, .int .u32 t371, .int .u32 t372, .int .u32 t373, .int .u32 0]) ?_ 7 _ rfl; (with_reducible repeat (first | refine blk_drewN ?_ _ | refine blk_drew ?_ | refine blk_alloc ?_ _)); refine blk_put (cs := #[.int .u32 t367, .int .u32 t368, .int .u32 t369, .int .u32 t370, .int .u32 t371, .int .u32 t372, .int .u32 0, .int .u32 0]) ?_ 6 _ rfl; (with_reducible repeat (first | refine blk_drewN ?_ _ | refine blk_drew ?_ | refine blk_alloc ?_ _)); refine blk_put (cs := #[.int .u32 t367, .int .u32 t368, .int .u32 t369, .int .u32 t370, .int .u32 t371, .int .u32 0, .int .u32 0, .int .u32 0]) ?_ 5 _ rfl; (with_reducible repeat (first | refine blk_drewN ?_ _ | refine blk_drew ?_ | refine blk_alloc ?_ _)); refine blk_put (cs := #[.int .u32 t367, .int .u32 t368, .int .u32 t369, .int .u32 t370, .int .u32 0, .int .u32 0, .int .u32 0, .int .u32 0]) ?_ 4 _ rfl; (with_reducible repeat (first | refine blk_drewN ?_ _ | refine blk_drew ?_ | refine blk_alloc ?_ _)); refine blk_put (cs := #[.int .u32 t367, .int .u32 t368, .int .u32 t369, .int .u32 0, .int .u32 0, .int .u32 0, .int .u32 0, .int .u32 0]) ?_ 3 _ rfl; (with_reducible repeat (first | refine blk_drewN ?_ _ | refine blk_drew ?_ | refine blk_alloc ?_ _)); refine blk_put (cs := #[.int .u32 t367, .int .u32 t368, .int .u32 0, .int .u32 0, .int .u32 0, .int .u32 0, .int .u32 0, .int .u32 0]) ?_ 2 _ rfl; (with_reducible repeat (first | refine blk_drewN ?_ _ | refine blk_drew ?_ | refine blk_alloc ?_ _)); refine blk_put (cs := #[.int .u32 t367, .int .u32 0, .int .u32 0, .int .u32 0, .int .u32 0, .int .u32 0, .int .u32 0, .int .u32 0]) ?_ 1 _ rfl; (with_reducible repeat (first | refine blk_drewN ?_ _ | refine blk_drew ?_ | refine blk_alloc ?_ _)); refine blk_put (cs := #[.int .u32 0, .int .u32 0, .int .u32 0, .int .u32 0, .int .u32 0, .int .u32 0, .int .u32 0, .int .u32 0]) ?_ 0 _ rfl; (with_reducible repeat (first | refine blk_drewN ?_ _ | refine blk_drew ?_ | refine blk_alloc ?_ _)); exact BK375.out⟩, ⟨by repeat (first | (with_reducible first | exact HB.out | apply below_alloc | apply pw_below_drewN | apply below_drew1 | refine below_set ?_ GE353.out | refine below_set ?_ GE365.out | refine below_set ?_ GE375.out) | exact HB.out)⟩⟩
   case rest =>
    clear HC15
    try clear c1
    try clear c2
    try clear p2
    try clear c3
    try clear c3b0
    try clear c4
    try clear c5
    try clear c6
    try clear c6b0
    try clear c6b1
    try clear c8
    try clear c10
    try clear c11
    try clear c12
    try clear c13
    try clear c13b0
    try clear c13b1
    try clear c22
    try clear c27
    try clear c28
    try clear c31
    try clear c33
    try clear c34
    try clear hcz10_0
    try clear hcz10_1
    try clear hcz10_2
    try clear hcz10_3
    try clear hcz10_4
    try clear hcz10_5
    try clear hcz10_6
    try clear hcz17_0
    try clear hcz17_1
    try clear hcz17_2
    try clear hcz17_3
    try clear hcz17_4
    try clear hcz17_5
    try clear hcz17_6
    try clear hcz19_0
    try clear hcz19_1
    try clear hcz19_2
    try clear hcz19_3
    try clear hcz19_4
    try clear hcz19_5
    try clear hcz19_6
    try clear hcz23_0
    try clear hcz23_1
    try clear hcz23_2
    try clear hcz23_3
    try clear hcz23_4
    try clear hcz23_5
    try clear hcz23_6
    try clear hcz23_7
    try clear hcz24_0
    try clear hcz24_1
    try clear hcz24_2
    try clear hcz24_3
    try clear hcz24_4
    try clear hcz24_5
    try clear hcz24_6
    try clear hcz29_0
    try clear hcz29_1
    try clear hcz29_2
    try clear hcz29_3
    try clear hcz29_4
    try clear hcz29_5
    try clear hcz29_6
    try clear hcz29_7
    try clear hcz30_0
    try clear hcz30_1
    try clear hcz30_2
    try clear hcz30_3
    try clear hcz30_4
    try clear hcz30_5
    try clear hcz30_6
    try clear hcz35_0
    try clear hcz35_1
    try clear hcz35_2
    try clear hcz35_3
    try clear hcz35_4
    try clear hcz35_5
    try clear hcz35_6
    try clear hcz35_7
    try clear hcz37_0
    try clear hcz37_1
    try clear hcz37_2
    try clear hcz37_3
    try clear hcz37_4
    try clear hcz37_5
    try clear hcz37_6
    try clear hcz37_7
    try clear hcz8_0
    try clear hcz8_1
    try clear hcz8_2
    try clear hcz8_3
    try clear hcz8_4
    try clear hcz8_5
    try clear hcz8_6
    try clear hfz10_0
    try clear hfz10_1
    try clear hfz10_2
    try clear hfz10_3
    try clear hfz10_4
    try clear hfz10_5
    try clear hfz10_6
    try clear hfz17_0
    try clear hfz17_1
    try clear hfz17_2
    try clear hfz17_3
    try clear hfz17_4
    try clear hfz17_5
    try clear hfz17_6
    try clear hfz19_0
    try clear hfz19_1
    try clear hfz19_2
    try clear hfz19_3
    try clear hfz19_4
    try clear hfz19_5
    try clear hfz19_6
    try clear hfz23_0
    try clear hfz23_1
    try clear hfz23_2
    try clear hfz23_3
    try clear hfz23_4
    try clear hfz23_5
    try clear hfz23_6
    try clear hfz23_7
    try clear hfz24_0
    try clear hfz24_1
    try clear hfz24_2
    try clear hfz24_3
    try clear hfz24_4
    try clear hfz24_5
    try clear hfz24_6
    try clear hfz29_0
    try clear hfz29_1
    try clear hfz29_2
    try clear hfz29_3
    try clear hfz29_4
    try clear hfz29_5
    try clear hfz29_6
    try clear hfz29_7
    try clear hfz30_0
    try clear hfz30_1
    try clear hfz30_2
    try clear hfz30_3
    try clear hfz30_4
    try clear hfz30_5
    try clear hfz30_6
    try clear hfz35_0
    try clear hfz35_1
    try clear hfz35_2
    try clear hfz35_3
    try clear hfz35_4
    try clear hfz35_5
    try clear hfz35_6
    try clear hfz35_7
    try clear hfz37_0
    try clear hfz37_1
    try clear hfz37_2
    try clear hfz37_3
    try clear hfz37_4
    try clear hfz37_5
    try clear hfz37_6
    try clear hfz37_7
    try clear hfz8_0
    try clear hfz8_1
    try clear hfz8_2
    try clear hfz8_3
    try clear hfz8_4
    try clear hfz8_5
    try clear hfz8_6
    obtain ⟨kq, x376000_14, x376001_14, x376002_14, x376003_14, x376004_14, x376005_14, x376006_14, x376007_14, HA, HJ14, BK353, BK365, BK375, HB⟩ := hcut
    cases kq with
    | zero => exact absurd HA.out (by simp [law4B.j0])
    | succ kj14 =>
     have H := HA.out
     clear HA
     simp only [law4B.j0] at H
     by_cases c38 : t355 = 0
     ·
      rw [if_pos c38] at H
      exact absurd H (by simp)
     ·
      rw [if_neg c38] at H
      have c38b0 : (t355 == 0) = false := beq_eq_false_iff_ne.mpr c38
      have c38b1 : (t355 != 0) = true := bne_iff_ne.mpr c38
      replace H := Option.bind_eq_some_iff.mp H
      obtain ⟨⟨t384, t385, t386, t387, t388, t389, t390, t391⟩, A390, H⟩ := H
      (try dsimp only at H)
      have A39 := Aside0.mk A390
      clear A390
      replace H := Option.bind_eq_some_iff.mp H
      obtain ⟨⟨t393, t394, t395, t396, t397, t398, t399, t400⟩, A400, H⟩ := H
      (try dsimp only at H)
      have A40 := Aside0.mk A400
      clear A400
      replace H := Option.bind_eq_some_iff.mp H
      obtain ⟨⟨t401, t402, t403, t404, t405, t406, t407, t408⟩, A410, H⟩ := H
      (try dsimp only at H)
      have A41 := Aside0.mk A410
      clear A410
      replace H := Option.bind_eq_some_iff.mp H
      obtain ⟨⟨t409, t410, t411, t412, t413, t414, t415, t416, t417⟩, A420, H⟩ := H
      (try dsimp only at H)
      have A42 := Aside0.mk A420
      clear A420
      replace H := Option.bind_eq_some_iff.mp H
      obtain ⟨⟨t419, t420, t421, t422, t423, t424, t425, t426⟩, A430, H⟩ := H
      (try dsimp only at H)
      have A43 := Aside0.mk A430
      clear A430
      replace H := Option.bind_eq_some_iff.mp H
      obtain ⟨⟨t427, t428, t429, t430, t431, t432, t433, t434, t435⟩, A440, H⟩ := H
      (try dsimp only at H)
      have A44 := Aside0.mk A440
      clear A440
      replace H := Option.bind_eq_some_iff.mp H
      obtain ⟨t437, A450, H⟩ := H
      (try dsimp only at H)
      have A45 := Aside0.mk A450
      clear A450
      by_cases c46 : t437 = true
      ·
       subst c46
       have H1 : (if t355 = 4 then (if t354 = 0 then (if a0_6 = true then (some t435) else (if t417 = true then (none) else (some true))) else (none)) else (none)) = some r := by rw [if_pos rfl] at H; exact H
       clear H
       have H := H1
       clear H1
       by_cases c47 : t355 = 4
       ·
        rw [if_pos c47] at H
        have c47b0 : (t355 == 4) = true := beq_iff_eq.mpr c47
        have c47b1 : (t355 != 4) = false := bne_eq_false_iff_eq.mpr c47
        clear c47
        by_cases c48 : t354 = 0
        ·
         rw [if_pos c48] at H
         have c48b0 : (t354 == 0) = true := beq_iff_eq.mpr c48
         have c48b1 : (t354 != 0) = false := bne_eq_false_iff_eq.mpr c48
         clear c48
         by_cases c49 : a0_6 = true
         ·
          subst c49
          have H1 : (some t435) = some r := by rw [if_pos rfl] at H; exact H
          clear H
          have H := H1
          clear H1
          obtain rfl := Option.some.inj H
          have hnb50 := NB365_353.out
          have hnc50 := NB353_365.out
          have hnb51 := NB365_375.out
          have hnc51 := NB375_365.out
          have hcz52_0 : wc.cell? ⟨gb365, 0, none⟩ = some (.int .u32 t357) := (blk_cell BK365.out 0).trans rfl
          have hcz52_1 : wc.cell? ⟨gb365, 1, none⟩ = some (.int .u32 t358) := (blk_cell BK365.out 1).trans rfl
          have hcz52_2 : wc.cell? ⟨gb365, 2, none⟩ = some (.int .u32 t359) := (blk_cell BK365.out 2).trans rfl
          have hcz52_3 : wc.cell? ⟨gb365, 3, none⟩ = some (.int .u32 t360) := (blk_cell BK365.out 3).trans rfl
          have hcz52_4 : wc.cell? ⟨gb365, 4, none⟩ = some (.int .u32 t361) := (blk_cell BK365.out 4).trans rfl
          have hcz52_5 : wc.cell? ⟨gb365, 5, none⟩ = some (.int .u32 t362) := (blk_cell BK365.out 5).trans rfl
          have hcz52_6 : wc.cell? ⟨gb365, 6, none⟩ = some (.int .u32 t363) := (blk_cell BK365.out 6).trans rfl
          have hcz52_7 : wc.cell? ⟨gb365, 7, none⟩ = some (.int .u32 t364) := (blk_cell BK365.out 7).trans rfl
          have hfz52_0 := blk_frozen BK365.out 0
          have hfz52_1 := blk_frozen BK365.out 1
          have hfz52_2 := blk_frozen BK365.out 2
          have hfz52_3 := blk_frozen BK365.out 3
          have hfz52_4 := blk_frozen BK365.out 4
          have hfz52_5 := blk_frozen BK365.out 5
          have hfz52_6 := blk_frozen BK365.out 6
          have hfz52_7 := blk_frozen BK365.out 7
          try go_wp2_with (first | ((with_reducible refine gate_callee (f := 14) rfl ?_); refine goesL_ (some 62) rfl rfl Try.func14 (by kernel_rfl) rfl #[.agg #[.int .u32 t357, .int .u32 t358, .int .u32 t359, .int .u32 t360, .int .u32 t361, .int .u32 t362, .int .u32 t363, .int .u32 t364], .int .i64 63] rfl (by (try simp only [List.map_toArray, List.map_cons, List.map_nil]); first | done | rfl | (simp only [List.length_drop, List.length_take]; rfl)) ?_; (with_reducible refine (offertoryref09_Shift.calls kj14 t357 t358 t359 t360 t361 t362 t363 t364 63 t384 t385 t386 t387 t388 t389 t390 t391 _ A39.out).mono ?_); rintro e w53 ⟨rfl, hb⟩; refine ⟨_, rfl, ?_⟩; have n0_ := law4B.keepB BK353 hb; have n1_ := law4B.keepB BK365 hb; have n2_ := law4B.keepB BK375 hb; have n3_ := Aside0.mk (below_step (by repeat (first | (with_reducible first | exact HB.out | apply below_alloc | apply pw_below_drewN | apply below_drew1 | refine below_set ?_ GE353.out | refine below_set ?_ GE365.out | refine below_set ?_ GE375.out) | exact HB.out)) hb); clear BK353; clear BK365; clear BK375; clear HB; have BK353 := n0_; have BK365 := n1_; have BK375 := n2_; have HB := n3_; clear n0_ n1_ n2_ n3_; (try clear hb); (try clear hb2); (try clear hk); (try clear hi)) | ((with_reducible refine gate_dst (N := 7) rfl ?_); refine box_event ?hg (N := 7) ?hd (cs := #[.int .u32 0, .int .u32 0, .int .u32 0, .int .u32 0, .int .u32 0, .int .u32 0, .int .u32 0, .int .u32 0]) (t := 41) ?hr ?_; (case hd => rfl); (case hg => rfl); (case hr => first | (go_simp; done) | (go_simp; rfl)); intro gb392 hg w54 hbox hb; have n0_ := law4B.keepB BK353 hb; have n1_ := law4B.keepB BK365 hb; have n2_ := law4B.keepB BK375 hb; have n3_ := Aside0.mk (below_step (by repeat (first | (with_reducible first | exact HB.out | apply below_alloc | apply pw_below_drewN | apply below_drew1 | refine below_set ?_ GE353.out | refine below_set ?_ GE365.out | refine below_set ?_ GE375.out) | exact HB.out)) hb); have n4_ := Aside0.mk (hbox); have n5_ := Aside0.mk ((by rw [hg]; exact (below_size (by repeat (first | (with_reducible first | exact HB.out | apply below_alloc | apply pw_below_drewN | apply below_drew1 | refine below_set ?_ GE353.out | refine below_set ?_ GE365.out | refine below_set ?_ GE375.out) | exact HB.out))) : w.heap.size ≤ gb392)); have n6_ := Aside0.mk ((by rw [hg]; exact (below_size (by repeat (first | (with_reducible first | exact HB.out | apply below_alloc | apply pw_below_drewN | apply below_drew1 | refine below_set ?_ GE353.out | refine below_set ?_ GE365.out | refine below_set ?_ GE375.out) | exact HB.out))) : w.heap.size ≤ gb392)); have n7_ := law4B.neL BK353 hg; have n8_ := law4B.neG BK353 hg; have n9_ := law4B.neL BK365 hg; have n10_ := law4B.neG BK365 hg; have n11_ := law4B.neL BK375 hg; have n12_ := law4B.neG BK375 hg; clear BK353; clear BK365; clear BK375; clear HB; have BK353 := n0_; have BK365 := n1_; have BK375 := n2_; have HB := n3_; have BK392 := n4_; have GW392 := n5_; have GE392 := n6_; have NB353_392 := n7_; have NB392_353 := n8_; have NB365_392 := n9_; have NB392_365 := n10_; have NB375_392 := n11_; have NB392_375 := n12_; clear n0_ n1_ n2_ n3_ n4_ n5_ n6_ n7_ n8_ n9_ n10_ n11_ n12_; clear hb hbox hg; have hnb55 := NB392_353.out; have hnc55 := NB353_392.out; have hnb56 := NB392_365.out; have hnc56 := NB365_392.out; have hnb57 := NB392_375.out; have hnc57 := NB375_392.out; have hcz58_0 : w54.cell? ⟨gb392, 0, none⟩ = some (.int .u32 0) := (blk_cell BK392.out 0).trans rfl; have hcz58_1 : w54.cell? ⟨gb392, 1, none⟩ = some (.int .u32 0) := (blk_cell BK392.out 1).trans rfl; have hcz58_2 : w54.cell? ⟨gb392, 2, none⟩ = some (.int .u32 0) := (blk_cell BK392.out 2).trans rfl; have hcz58_3 : w54.cell? ⟨gb392, 3, none⟩ = some (.int .u32 0) := (blk_cell BK392.out 3).trans rfl; have hcz58_4 : w54.cell? ⟨gb392, 4, none⟩ = some (.int .u32 0) := (blk_cell BK392.out 4).trans rfl; have hcz58_5 : w54.cell? ⟨gb392, 5, none⟩ = some (.int .u32 0) := (blk_cell BK392.out 5).trans rfl; have hcz58_6 : w54.cell? ⟨gb392, 6, none⟩ = some (.int .u32 0) := (blk_cell BK392.out 6).trans rfl; have hcz58_7 : w54.cell? ⟨gb392, 7, none⟩ = some (.int .u32 0) := (blk_cell BK392.out 7).trans rfl; have hfz58_0 := blk_frozen BK392.out 0; have hfz58_1 := blk_frozen BK392.out 1; have hfz58_2 := blk_frozen BK392.out 2; have hfz58_3 := blk_frozen BK392.out 3; have hfz58_4 := blk_frozen BK392.out 4; have hfz58_5 := blk_frozen BK392.out 5; have hfz58_6 := blk_frozen BK392.out 6; have hfz58_7 := blk_frozen BK392.out 7))
          have n0_ : Aside0 (((((((((w54.setCell ⟨gb392, 0, none⟩ (.int .u32 t384)).setCell ⟨gb392, 1, none⟩ (.int .u32 t385)).setCell ⟨gb392, 2, none⟩ (.int .u32 t386)).setCell ⟨gb392, 3, none⟩ (.int .u32 t387)).setCell ⟨gb392, 4, none⟩ (.int .u32 t388)).setCell ⟨gb392, 5, none⟩ (.int .u32 t389)).setCell ⟨gb392, 6, none⟩ (.int .u32 t390)).setCell ⟨gb392, 7, none⟩ (.int .u32 t391)).heap[gb353]? = some (.cells #[.slice A0_0 l0_0.length c0_0, .int .i64 a0_1, .int .u64 a0_2, .int .u64 a0_3, .int .u64 a0_4, .int .u64 a0_5, .bool true] 36 (0, 0))) := ⟨by (repeat (first | (with_reducible first | refine blk_drewN ?_ _ | refine blk_drew ?_ | refine blk_alloc ?_ _) | refine blk_far ?_ NB353_392.out _)); (with_reducible repeat (first | refine blk_drewN ?_ _ | refine blk_drew ?_ | refine blk_alloc ?_ _)); exact BK353.out⟩
          have n1_ : Aside0 (((((((((w54.setCell ⟨gb392, 0, none⟩ (.int .u32 t384)).setCell ⟨gb392, 1, none⟩ (.int .u32 t385)).setCell ⟨gb392, 2, none⟩ (.int .u32 t386)).setCell ⟨gb392, 3, none⟩ (.int .u32 t387)).setCell ⟨gb392, 4, none⟩ (.int .u32 t388)).setCell ⟨gb392, 5, none⟩ (.int .u32 t389)).setCell ⟨gb392, 6, none⟩ (.int .u32 t390)).setCell ⟨gb392, 7, none⟩ (.int .u32 t391)).heap[gb365]? = some (.cells #[.int .u32 t357, .int .u32 t358, .int .u32 t359, .int .u32 t360, .int .u32 t361, .int .u32 t362, .int .u32 t363, .int .u32 t364] 41 (0, 0))) := ⟨by (repeat (first | (with_reducible first | refine blk_drewN ?_ _ | refine blk_drew ?_ | refine blk_alloc ?_ _) | refine blk_far ?_ NB365_392.out _)); (with_reducible repeat (first | refine blk_drewN ?_ _ | refine blk_drew ?_ | refine blk_alloc ?_ _)); exact BK365.out⟩
          have n2_ : Aside0 (((((((((w54.setCell ⟨gb392, 0, none⟩ (.int .u32 t384)).setCell ⟨gb392, 1, none⟩ (.int .u32 t385)).setCell ⟨gb392, 2, none⟩ (.int .u32 t386)).setCell ⟨gb392, 3, none⟩ (.int .u32 t387)).setCell ⟨gb392, 4, none⟩ (.int .u32 t388)).setCell ⟨gb392, 5, none⟩ (.int .u32 t389)).setCell ⟨gb392, 6, none⟩ (.int .u32 t390)).setCell ⟨gb392, 7, none⟩ (.int .u32 t391)).heap[gb375]? = some (.cells #[.int .u32 x376000_14, .int .u32 x376001_14, .int .u32 x376002_14, .int .u32 x376003_14, .int .u32 x376004_14, .int .u32 x376005_14, .int .u32 x376006_14, .int .u32 x376007_14] 41 (0, 0))) := ⟨by (repeat (first | (with_reducible first | refine blk_drewN ?_ _ | refine blk_drew ?_ | refine blk_alloc ?_ _) | refine blk_far ?_ NB375_392.out _)); (with_reducible repeat (first | refine blk_drewN ?_ _ | refine blk_drew ?_ | refine blk_alloc ?_ _)); exact BK375.out⟩
          have n3_ : Aside0 (((((((((w54.setCell ⟨gb392, 0, none⟩ (.int .u32 t384)).setCell ⟨gb392, 1, none⟩ (.int .u32 t385)).setCell ⟨gb392, 2, none⟩ (.int .u32 t386)).setCell ⟨gb392, 3, none⟩ (.int .u32 t387)).setCell ⟨gb392, 4, none⟩ (.int .u32 t388)).setCell ⟨gb392, 5, none⟩ (.int .u32 t389)).setCell ⟨gb392, 6, none⟩ (.int .u32 t390)).setCell ⟨gb392, 7, none⟩ (.int .u32 t391)).heap[gb392]? = some (.cells #[.int .u32 t384, .int .u32 t385, .int .u32 t386, .int .u32 t387, .int .u32 t388, .int .u32 t389, .int .u32 t390, .int .u32 t391] 41 (0, 0))) := ⟨by (with_reducible repeat (first | refine blk_drewN ?_ _ | refine blk_drew ?_ | refine blk_alloc ?_ _)); refine blk_put (cs := #[.int .u32 t384, .int .u32 t385, .int .u32 t386, .int .u32 t387, .int .u32 t388, .int .u32 t389, .int .u32 t390, .int .u32 0]) ?_ 7 _ rfl; (with_reducible repeat (first | refine blk_drewN ?_ _ | refine blk_drew ?_ | refine blk_alloc ?_ _)); refine blk_put (cs := #[.int .u32 t384, .int .u32 t385, .int .u32 t386, .int .u32 t387, .int .u32 t388, .int .u32 t389, .int .u32 0, .int .u32 0]) ?_ 6 _ rfl; (with_reducible repeat (first | refine blk_drewN ?_ _ | refine blk_drew ?_ | refine blk_alloc ?_ _)); refine blk_put (cs := #[.int .u32 t384, .int .u32 t385, .int .u32 t386, .int .u32 t387, .int .u32 t388, .int .u32 0, .int .u32 0, .int .u32 0]) ?_ 5 _ rfl; (with_reducible repeat (first | refine blk_drewN ?_ _ | refine blk_drew ?_ | refine blk_alloc ?_ _)); refine blk_put (cs := #[.int .u32 t384, .int .u32 t385, .int .u32 t386, .int .u32 t387, .int .u32 0, .int .u32 0, .int .u32 0, .int .u32 0]) ?_ 4 _ rfl; (with_reducible repeat (first | refine blk_drewN ?_ _ | refine blk_drew ?_ | refine blk_alloc ?_ _)); refine blk_put (cs := #[.int .u32 t384, .int .u32 t385, .int .u32 t386, .int .u32 0, .int .u32 0, .int .u32 0, .int .u32 0, .int .u32 0]) ?_ 3 _ rfl; (with_reducible repeat (first | refine blk_drewN ?_ _ | refine blk_drew ?_ | refine blk_alloc ?_ _)); refine blk_put (cs := #[.int .u32 t384, .int .u32 t385, .int .u32 0, .int .u32 0, .int .u32 0, .int .u32 0, .int .u32 0, .int .u32 0]) ?_ 2 _ rfl; (with_reducible repeat (first | refine blk_drewN ?_ _ | refine blk_drew ?_ | refine blk_alloc ?_ _)); refine blk_put (cs := #[.int .u32 t384, .int .u32 0, .int .u32 0, .int .u32 0, .int .u32 0, .int .u32 0, .int .u32 0, .int .u32 0]) ?_ 1 _ rfl; (with_reducible repeat (first | refine blk_drewN ?_ _ | refine blk_drew ?_ | refine blk_alloc ?_ _)); refine blk_put (cs := #[.int .u32 0, .int .u32 0, .int .u32 0, .int .u32 0, .int .u32 0, .int .u32 0, .int .u32 0, .int .u32 0]) ?_ 0 _ rfl; (with_reducible repeat (first | refine blk_drewN ?_ _ | refine blk_drew ?_ | refine blk_alloc ?_ _)); exact BK392.out⟩
          have n4_ : Aside0 (Below w.heap.size w ((((((((w54.setCell ⟨gb392, 0, none⟩ (.int .u32 t384)).setCell ⟨gb392, 1, none⟩ (.int .u32 t385)).setCell ⟨gb392, 2, none⟩ (.int .u32 t386)).setCell ⟨gb392, 3, none⟩ (.int .u32 t387)).setCell ⟨gb392, 4, none⟩ (.int .u32 t388)).setCell ⟨gb392, 5, none⟩ (.int .u32 t389)).setCell ⟨gb392, 6, none⟩ (.int .u32 t390)).setCell ⟨gb392, 7, none⟩ (.int .u32 t391))) := ⟨by repeat (first | (with_reducible first | exact HB.out | apply below_alloc | apply pw_below_drewN | apply below_drew1 | refine below_set ?_ GE353.out | refine below_set ?_ GE365.out | refine below_set ?_ GE375.out | refine below_set ?_ GE392.out) | exact HB.out)⟩
          (try clear BK353)
          (try clear BK365)
          (try clear BK375)
          (try clear BK392)
          (try clear HB)
          generalize ((((((((w54.setCell ⟨gb392, 0, none⟩ (.int .u32 t384)).setCell ⟨gb392, 1, none⟩ (.int .u32 t385)).setCell ⟨gb392, 2, none⟩ (.int .u32 t386)).setCell ⟨gb392, 3, none⟩ (.int .u32 t387)).setCell ⟨gb392, 4, none⟩ (.int .u32 t388)).setCell ⟨gb392, 5, none⟩ (.int .u32 t389)).setCell ⟨gb392, 6, none⟩ (.int .u32 t390)).setCell ⟨gb392, 7, none⟩ (.int .u32 t391)) = w59 at n0_ n1_ n2_ n3_ n4_ ⊢
          have BK353 := n0_
          have BK365 := n1_
          have BK375 := n2_
          have BK392 := n3_
          have HB := n4_
          clear n0_ n1_ n2_ n3_ n4_
          have n0_ := Aside0.mk (blk_drew BK353.out)
          have n1_ := Aside0.mk (blk_drew BK365.out)
          have n2_ := Aside0.mk (blk_drew BK375.out)
          have n3_ := Aside0.mk (blk_drew BK392.out)
          have n4_ := Aside0.mk (below_drew1 HB.out)
          clear BK353
          clear BK365
          clear BK375
          clear BK392
          clear HB
          have BK353 := n0_
          have BK365 := n1_
          have BK375 := n2_
          have BK392 := n3_
          have HB := n4_
          clear n0_ n1_ n2_ n3_ n4_
          refine start_ (n := 11) (S := fun w' => w'.cell? ⟨gb375, 0, none⟩ = some (.int .u32 x376000_14) ∧ w'.cell? ⟨gb375, 1, none⟩ = some (.int .u32 x376001_14) ∧ w'.cell? ⟨gb375, 2, none⟩ = some (.int .u32 x376002_14) ∧ w'.cell? ⟨gb375, 3, none⟩ = some (.int .u32 x376003_14) ∧ w'.cell? ⟨gb375, 4, none⟩ = some (.int .u32 x376004_14) ∧ w'.cell? ⟨gb375, 5, none⟩ = some (.int .u32 x376005_14) ∧ w'.cell? ⟨gb375, 6, none⟩ = some (.int .u32 x376006_14) ∧ w'.cell? ⟨gb375, 7, none⟩ = some (.int .u32 x376007_14) ∧ w'.cell? ⟨gb392, 0, none⟩ = some (.int .u32 t384) ∧ w'.cell? ⟨gb392, 1, none⟩ = some (.int .u32 t385) ∧ w'.cell? ⟨gb392, 2, none⟩ = some (.int .u32 t386) ∧ w'.cell? ⟨gb392, 3, none⟩ = some (.int .u32 t387) ∧ w'.cell? ⟨gb392, 4, none⟩ = some (.int .u32 t388) ∧ w'.cell? ⟨gb392, 5, none⟩ = some (.int .u32 t389) ∧ w'.cell? ⟨gb392, 6, none⟩ = some (.int .u32 t390) ∧ w'.cell? ⟨gb392, 7, none⟩ = some (.int .u32 t391)) (ds := []) #[F, F, F, F, F, F, F, F, F, F, F] (by kernel_rfl) rfl rfl ⟨(blk_cell BK375.out 0).trans rfl, (blk_cell BK375.out 1).trans rfl, (blk_cell BK375.out 2).trans rfl, (blk_cell BK375.out 3).trans rfl, (blk_cell BK375.out 4).trans rfl, (blk_cell BK375.out 5).trans rfl, (blk_cell BK375.out 6).trans rfl, (blk_cell BK375.out 7).trans rfl, (blk_cell BK392.out 0).trans rfl, (blk_cell BK392.out 1).trans rfl, (blk_cell BK392.out 2).trans rfl, (blk_cell BK392.out 3).trans rfl, (blk_cell BK392.out 4).trans rfl, (blk_cell BK392.out 5).trans rfl, (blk_cell BK392.out 6).trans rfl, (blk_cell BK392.out 7).trans rfl⟩ (fun hHeld => ?_); refine with_tabW law4B.tab12 law4B.bits12 (fun HT_ HW_ => ?_)
          generalize w59.drew = w60 at BK353 BK365 BK375 BK392 HB hHeld ⊢
          refine take_ (i := 0) (N := some 64) (v := ?_) (a' := ?_) #[T, F, F, F, F, F, F, F, F, F, F] rfl rfl (take_ofW HT_.out HW_.out (by kernel_rfl)) (fun _ _ _ h => h) (Or.inl ⟨by rfl, ?_⟩) hHeld ?_ ?_
          rotate_left
          ·
           rintro w' ⟨s0, s1, s2, s3, s4, s5, s6, s7, s8, s9, s10, s11, s12, s13, s14, s15⟩
           (try simp only [add_plain] at s0 s1 s2 s3 s4 s5 s6 s7 s8 s9 s10 s11 s12 s13 s14 s15)
           go_simp
           with_reducible rfl
          rotate_left
          ·
           simp only [Act.put, List.setIfInBounds_toArray, List.set_cons_zero, List.set_cons_succ, i64_w, i32_w]
           rfl
          refine take_ (i := 1) (N := some 65) (v := ?_) (a' := ?_) #[T, T, F, F, F, F, F, F, F, F, F] rfl rfl (take_ofW HT_.out HW_.out (by kernel_rfl)) (fun _ _ _ h => h) (Or.inl ⟨by rfl, ?_⟩) hHeld ?_ ?_
          rotate_left
          ·
           rintro w' ⟨s0, s1, s2, s3, s4, s5, s6, s7, s8, s9, s10, s11, s12, s13, s14, s15⟩
           (try simp only [add_plain] at s0 s1 s2 s3 s4 s5 s6 s7 s8 s9 s10 s11 s12 s13 s14 s15)
           go_simp
           with_reducible rfl
          rotate_left
          ·
           simp only [Act.put, List.setIfInBounds_toArray, List.set_cons_zero, List.set_cons_succ, i64_w, i32_w]
           rfl
          refine join_ (σ := Nat) 2 #[T, T, T, T, T, T, T, T, T, F, F] (fun s_ => [(66, .agg #[.int .u32 t393, .int .u32 t394, .int .u32 t395, .int .u32 t396, .int .u32 t397, .int .u32 t398, .int .u32 t399, .int .u32 t400]), (67, .agg #[.int .u32 t401, .int .u32 t402, .int .u32 t403, .int .u32 t404, .int .u32 t405, .int .u32 t406, .int .u32 t407, .int .u32 t408]), (68, .tuple #[.agg #[.int .u32 t409, .int .u32 t410, .int .u32 t411, .int .u32 t412, .int .u32 t413, .int .u32 t414, .int .u32 t415, .int .u32 t416], .bool t417]), (8, .pointer (some ⟨s_, 0, none⟩)), (63, .tuple #[.agg #[.int .u32 t409, .int .u32 t410, .int .u32 t411, .int .u32 t412, .int .u32 t413, .int .u32 t414, .int .u32 t415, .int .u32 t416], .bool t417]), (69, .agg #[.int .u32 t409, .int .u32 t410, .int .u32 t411, .int .u32 t412, .int .u32 t413, .int .u32 t414, .int .u32 t415, .int .u32 t416]), (70, .bool t417)]) (fun s_ w' => (w'.cell? ⟨gb375, 0, none⟩ = some (.int .u32 x376000_14) ∧ w'.cell? ⟨gb375, 1, none⟩ = some (.int .u32 x376001_14) ∧ w'.cell? ⟨gb375, 2, none⟩ = some (.int .u32 x376002_14) ∧ w'.cell? ⟨gb375, 3, none⟩ = some (.int .u32 x376003_14) ∧ w'.cell? ⟨gb375, 4, none⟩ = some (.int .u32 x376004_14) ∧ w'.cell? ⟨gb375, 5, none⟩ = some (.int .u32 x376005_14) ∧ w'.cell? ⟨gb375, 6, none⟩ = some (.int .u32 x376006_14) ∧ w'.cell? ⟨gb375, 7, none⟩ = some (.int .u32 x376007_14) ∧ w'.cell? ⟨gb392, 0, none⟩ = some (.int .u32 t384) ∧ w'.cell? ⟨gb392, 1, none⟩ = some (.int .u32 t385) ∧ w'.cell? ⟨gb392, 2, none⟩ = some (.int .u32 t386) ∧ w'.cell? ⟨gb392, 3, none⟩ = some (.int .u32 t387) ∧ w'.cell? ⟨gb392, 4, none⟩ = some (.int .u32 t388) ∧ w'.cell? ⟨gb392, 5, none⟩ = some (.int .u32 t389) ∧ w'.cell? ⟨gb392, 6, none⟩ = some (.int .u32 t390) ∧ w'.cell? ⟨gb392, 7, none⟩ = some (.int .u32 t391)) ∧ (w'.heap[gb353]? = some (.cells #[.slice A0_0 l0_0.length c0_0, .int .i64 a0_1, .int .u64 a0_2, .int .u64 a0_3, .int .u64 a0_4, .int .u64 a0_5, .bool true] 36 (0, 0))) ∧ (w'.heap[gb365]? = some (.cells #[.int .u32 t357, .int .u32 t358, .int .u32 t359, .int .u32 t360, .int .u32 t361, .int .u32 t362, .int .u32 t363, .int .u32 t364] 41 (0, 0))) ∧ (w'.heap[gb375]? = some (.cells #[.int .u32 x376000_14, .int .u32 x376001_14, .int .u32 x376002_14, .int .u32 x376003_14, .int .u32 x376004_14, .int .u32 x376005_14, .int .u32 x376006_14, .int .u32 x376007_14] 41 (0, 0))) ∧ (w'.heap[gb392]? = some (.cells #[.int .u32 t384, .int .u32 t385, .int .u32 t386, .int .u32 t387, .int .u32 t388, .int .u32 t389, .int .u32 t390, .int .u32 t391] 41 (0, 0))) ∧ (w'.heap[s_]? = some (.cells #[.int .u32 0, .int .u32 0, .int .u32 0, .int .u32 0, .int .u32 0, .int .u32 0, .int .u32 0, .int .u32 0] 41 (0, 0))) ∧ (w.heap.size ≤ s_) ∧ (w.heap.size ≤ s_) ∧ (gb353 ≠ s_) ∧ (s_ ≠ gb353) ∧ (gb365 ≠ s_) ∧ (s_ ≠ gb365) ∧ (gb375 ≠ s_) ∧ (s_ ≠ gb375) ∧ (gb392 ≠ s_) ∧ (s_ ≠ gb392) ∧ (Below w.heap.size w w')) ?_ ?_
          rotate_left
          ·
           intro hCont
           refine two_ (i := 2) (j := 8) (Ni := some 66) (Nj := some 8) #[T, T, T, F, F, F, F, F, F, F, F] #[T, T, F, F, F, F, F, F, T, F, F] rfl rfl rfl rfl (two_of HT_.out (by kernel_rfl)) (by decide) (by decide) (fun K hK => ?_) (fun K hK => ?_)
           ·
            skip
            refine goes_ Try.func13 (by kernel_rfl) rfl #[.agg #[.int .u32 t384, .int .u32 t385, .int .u32 t386, .int .u32 t387, .int .u32 t388, .int .u32 t389, .int .u32 t390, .int .u32 t391]] (by rfl) rfl rfl (by (try simp only [List.map_toArray, List.map_cons, List.map_nil]); first | done | rfl | (simp only [List.length_drop, List.length_take]; rfl)) ?_
            with_reducible refine (offertoryref09_Neg.calls t384 t385 t386 t387 t388 t389 t390 t391 t393 t394 t395 t396 t397 t398 t399 t400 _ A40.out).mono ?_
            rintro e w61 ⟨rfl, hb⟩
            refine ⟨_, rfl, ?_⟩
            have n0_ := law4B.keepB BK353 hb
            have n1_ := law4B.keepB BK365 hb
            have n2_ := law4B.keepB BK375 hb
            have n3_ := law4B.keepB BK392 hb
            have n4_ := Aside0.mk (below_step (by repeat (first | (with_reducible first | exact HB.out | apply below_alloc | apply pw_below_drewN | apply below_drew1 | refine below_set ?_ GE353.out | refine below_set ?_ GE365.out | refine below_set ?_ GE375.out | refine below_set ?_ GE392.out) | exact HB.out)) hb)
            clear BK353
            clear BK365
            clear BK375
            clear BK392
            clear HB
            have BK353 := n0_
            have BK365 := n1_
            have BK375 := n2_
            have BK392 := n3_
            have HB := n4_
            clear n0_ n1_ n2_ n3_ n4_
            (try clear hb)
            (try clear hb2)
            (try clear hk)
            (try clear hi)
            refine hK.out _ _ ⟨(blk_cell BK375.out 0).trans rfl, (blk_cell BK375.out 1).trans rfl, (blk_cell BK375.out 2).trans rfl, (blk_cell BK375.out 3).trans rfl, (blk_cell BK375.out 4).trans rfl, (blk_cell BK375.out 5).trans rfl, (blk_cell BK375.out 6).trans rfl, (blk_cell BK375.out 7).trans rfl, (blk_cell BK392.out 0).trans rfl, (blk_cell BK392.out 1).trans rfl, (blk_cell BK392.out 2).trans rfl, (blk_cell BK392.out 3).trans rfl, (blk_cell BK392.out 4).trans rfl, (blk_cell BK392.out 5).trans rfl, (blk_cell BK392.out 6).trans rfl, (blk_cell BK392.out 7).trans rfl⟩ (fun hHeld => ?_)
            clear hK K
            refine norm_ (a' := ?_) ?_ ?_
            rotate_left
            ·
             show Act.put _ (some 66) _ = _
             simp only [Act.put, List.setIfInBounds_toArray, List.set_cons_zero, List.set_cons_succ, i64_w, i32_w]
             rfl
            refine two_ (i := 3) (j := 8) (Ni := some 67) (Nj := some 8) #[T, T, T, T, F, F, F, F, F, F, F] #[T, T, T, F, F, F, F, F, T, F, F] rfl rfl rfl rfl (two_of HT_.out (by kernel_rfl)) (by decide) (by decide) (fun K hK => ?_) (fun K hK => ?_)
            ·
             skip
             refine goes_ Try.func16 (by kernel_rfl) rfl #[.agg #[.int .u32 x376000_14, .int .u32 x376001_14, .int .u32 x376002_14, .int .u32 x376003_14, .int .u32 x376004_14, .int .u32 x376005_14, .int .u32 x376006_14, .int .u32 x376007_14], .agg #[.int .u32 t393, .int .u32 t394, .int .u32 t395, .int .u32 t396, .int .u32 t397, .int .u32 t398, .int .u32 t399, .int .u32 t400]] (by rfl) rfl rfl (by (try simp only [List.map_toArray, List.map_cons, List.map_nil]); first | done | rfl | (simp only [List.length_drop, List.length_take]; rfl)) ?_
             with_reducible refine (offertoryref09_Add.calls x376000_14 x376001_14 x376002_14 x376003_14 x376004_14 x376005_14 x376006_14 x376007_14 t393 t394 t395 t396 t397 t398 t399 t400 t401 t402 t403 t404 t405 t406 t407 t408 _ A41.out).mono ?_
             rintro e w62 ⟨rfl, hb⟩
             refine ⟨_, rfl, ?_⟩
             have n0_ := law4B.keepB BK353 hb
             have n1_ := law4B.keepB BK365 hb
             have n2_ := law4B.keepB BK375 hb
             have n3_ := law4B.keepB BK392 hb
             have n4_ := Aside0.mk (below_step (by repeat (first | (with_reducible first | exact HB.out | apply below_alloc | apply pw_below_drewN | apply below_drew1 | refine below_set ?_ GE353.out | refine below_set ?_ GE365.out | refine below_set ?_ GE375.out | refine below_set ?_ GE392.out) | exact HB.out)) hb)
             clear BK353
             clear BK365
             clear BK375
             clear BK392
             clear HB
             have BK353 := n0_
             have BK365 := n1_
             have BK375 := n2_
             have BK392 := n3_
             have HB := n4_
             clear n0_ n1_ n2_ n3_ n4_
             (try clear hb)
             (try clear hb2)
             (try clear hk)
             (try clear hi)
             refine hK.out _ _ ⟨(blk_cell BK375.out 0).trans rfl, (blk_cell BK375.out 1).trans rfl, (blk_cell BK375.out 2).trans rfl, (blk_cell BK375.out 3).trans rfl, (blk_cell BK375.out 4).trans rfl, (blk_cell BK375.out 5).trans rfl, (blk_cell BK375.out 6).trans rfl, (blk_cell BK375.out 7).trans rfl, (blk_cell BK392.out 0).trans rfl, (blk_cell BK392.out 1).trans rfl, (blk_cell BK392.out 2).trans rfl, (blk_cell BK392.out 3).trans rfl, (blk_cell BK392.out 4).trans rfl, (blk_cell BK392.out 5).trans rfl, (blk_cell BK392.out 6).trans rfl, (blk_cell BK392.out 7).trans rfl⟩ (fun hHeld => ?_)
             clear hK K
             refine norm_ (a' := ?_) ?_ ?_
             rotate_left
             ·
              show Act.put _ (some 67) _ = _
              simp only [Act.put, List.setIfInBounds_toArray, List.set_cons_zero, List.set_cons_succ, i64_w, i32_w]
              rfl
             refine two_ (i := 4) (j := 8) (Ni := some 68) (Nj := some 8) #[T, T, T, T, T, F, F, F, F, F, F] #[T, T, T, T, F, F, F, F, T, F, F] rfl rfl rfl rfl (two_of HT_.out (by kernel_rfl)) (by decide) (by decide) (fun K hK => ?_) (fun K hK => ?_)
             ·
              skip
              refine goes_ Try.func15 (by kernel_rfl) rfl #[.agg #[.int .u32 t401, .int .u32 t402, .int .u32 t403, .int .u32 t404, .int .u32 t405, .int .u32 t406, .int .u32 t407, .int .u32 t408]] (by rfl) rfl rfl (by (try simp only [List.map_toArray, List.map_cons, List.map_nil]); first | done | rfl | (simp only [List.length_drop, List.length_take]; rfl)) ?_
              with_reducible refine (offertoryref09_Signed.calls t401 t402 t403 t404 t405 t406 t407 t408 t409 t410 t411 t412 t413 t414 t415 t416 t417 _ A42.out).mono ?_
              rintro e w63 ⟨rfl, hb⟩
              refine ⟨_, rfl, ?_⟩
              have n0_ := law4B.keepB BK353 hb
              have n1_ := law4B.keepB BK365 hb
              have n2_ := law4B.keepB BK375 hb
              have n3_ := law4B.keepB BK392 hb
              have n4_ := Aside0.mk (below_step (by repeat (first | (with_reducible first | exact HB.out | apply below_alloc | apply pw_below_drewN | apply below_drew1 | refine below_set ?_ GE353.out | refine below_set ?_ GE365.out | refine below_set ?_ GE375.out | refine below_set ?_ GE392.out) | exact HB.out)) hb)
              clear BK353
              clear BK365
              clear BK375
              clear BK392
              clear HB
              have BK353 := n0_
              have BK365 := n1_
              have BK375 := n2_
              have BK392 := n3_
              have HB := n4_
              clear n0_ n1_ n2_ n3_ n4_
              (try clear hb)
              (try clear hb2)
              (try clear hk)
              (try clear hi)
              refine hK.out _ _ ⟨(blk_cell BK375.out 0).trans rfl, (blk_cell BK375.out 1).trans rfl, (blk_cell BK375.out 2).trans rfl, (blk_cell BK375.out 3).trans rfl, (blk_cell BK375.out 4).trans rfl, (blk_cell BK375.out 5).trans rfl, (blk_cell BK375.out 6).trans rfl, (blk_cell BK375.out 7).trans rfl, (blk_cell BK392.out 0).trans rfl, (blk_cell BK392.out 1).trans rfl, (blk_cell BK392.out 2).trans rfl, (blk_cell BK392.out 3).trans rfl, (blk_cell BK392.out 4).trans rfl, (blk_cell BK392.out 5).trans rfl, (blk_cell BK392.out 6).trans rfl, (blk_cell BK392.out 7).trans rfl⟩ (fun hHeld => ?_)
              clear hK K
              refine norm_ (a' := ?_) ?_ ?_
              rotate_left
              ·
               show Act.put _ (some 68) _ = _
               simp only [Act.put, List.setIfInBounds_toArray, List.set_cons_zero, List.set_cons_succ, i64_w, i32_w]
               rfl
              refine pure_ (i := 5) (N := some 63) (v := ?_) (a' := ?_) #[T, T, T, T, T, T, F, F, F, F, F] rfl rfl (any_of HT_.out (by kernel_rfl)) (fun _ _ _ h => h) (Or.inl ⟨by rfl, ?_⟩) ?_ ?_
              rotate_left
              ·
               intro w'
               (try simp only [add_plain] at s0 s1 s2 s3 s4 s5 s6 s7 s8 s9 s10 s11 s12 s13 s14 s15)
               go_simp
               with_reducible rfl
              rotate_left
              ·
               simp only [Act.put, List.setIfInBounds_toArray, List.set_cons_zero, List.set_cons_succ, i64_w, i32_w]
               rfl
              refine pure_ (i := 6) (N := some 69) (v := ?_) (a' := ?_) #[T, T, T, T, T, T, T, F, F, F, F] rfl rfl (any_of HT_.out (by kernel_rfl)) (fun _ _ _ h => h) (Or.inl ⟨by rfl, ?_⟩) ?_ ?_
              rotate_left
              ·
               intro w'
               (try simp only [add_plain] at s0 s1 s2 s3 s4 s5 s6 s7 s8 s9 s10 s11 s12 s13 s14 s15)
               go_simp
               with_reducible rfl
              rotate_left
              ·
               simp only [Act.put, List.setIfInBounds_toArray, List.set_cons_zero, List.set_cons_succ, i64_w, i32_w]
               rfl
              refine pure_ (i := 7) (N := some 70) (v := ?_) (a' := ?_) #[T, T, T, T, T, T, T, T, F, F, F] rfl rfl (any_of HT_.out (by kernel_rfl)) (fun _ _ _ h => h) (Or.inl ⟨by rfl, ?_⟩) ?_ ?_
              rotate_left
              ·
               intro w'
               (try simp only [add_plain] at s0 s1 s2 s3 s4 s5 s6 s7 s8 s9 s10 s11 s12 s13 s14 s15)
               go_simp
               with_reducible rfl
              rotate_left
              ·
               simp only [Act.put, List.setIfInBounds_toArray, List.set_cons_zero, List.set_cons_succ, i64_w, i32_w]
               rfl
              refine one_ (i := 8) (N := some 8) #[T, T, T, T, T, T, T, T, T, F, F] rfl rfl (one_of HT_.out (by kernel_rfl)) (by decide) (fun K hK => ?_)
              refine box_step ?hg (N := 8) ?hd (cs := #[.int .u32 0, .int .u32 0, .int .u32 0, .int .u32 0, .int .u32 0, .int .u32 0, .int .u32 0, .int .u32 0]) (t := 41) ?hr ?_; (case hd => rfl); (case hg => rfl); (case hr => first | (go_simp; done) | (go_simp; rfl))
              intro gb418 hg w64 hbox hb
              have n0_ := law4B.keepB BK353 hb
              have n1_ := law4B.keepB BK365 hb
              have n2_ := law4B.keepB BK375 hb
              have n3_ := law4B.keepB BK392 hb
              have n4_ := Aside0.mk (below_step (by repeat (first | (with_reducible first | exact HB.out | apply below_alloc | apply pw_below_drewN | apply below_drew1 | refine below_set ?_ GE353.out | refine below_set ?_ GE365.out | refine below_set ?_ GE375.out | refine below_set ?_ GE392.out) | exact HB.out)) hb)
              have n5_ := Aside0.mk (hbox)
              have n6_ := Aside0.mk ((by rw [hg]; exact (below_size (by repeat (first | (with_reducible first | exact HB.out | apply below_alloc | apply pw_below_drewN | apply below_drew1 | refine below_set ?_ GE353.out | refine below_set ?_ GE365.out | refine below_set ?_ GE375.out | refine below_set ?_ GE392.out) | exact HB.out))) : w.heap.size ≤ gb418))
              have n7_ := Aside0.mk ((by rw [hg]; exact (below_size (by repeat (first | (with_reducible first | exact HB.out | apply below_alloc | apply pw_below_drewN | apply below_drew1 | refine below_set ?_ GE353.out | refine below_set ?_ GE365.out | refine below_set ?_ GE375.out | refine below_set ?_ GE392.out) | exact HB.out))) : w.heap.size ≤ gb418))
              have n8_ := law4B.neL BK353 hg
              have n9_ := law4B.neG BK353 hg
              have n10_ := law4B.neL BK365 hg
              have n11_ := law4B.neG BK365 hg
              have n12_ := law4B.neL BK375 hg
              have n13_ := law4B.neG BK375 hg
              have n14_ := law4B.neL BK392 hg
              have n15_ := law4B.neG BK392 hg
              clear BK353
              clear BK365
              clear BK375
              clear BK392
              clear HB
              have BK353 := n0_
              have BK365 := n1_
              have BK375 := n2_
              have BK392 := n3_
              have HB := n4_
              have BK418 := n5_
              have GW418 := n6_
              have GE418 := n7_
              have NB353_418 := n8_
              have NB418_353 := n9_
              have NB365_418 := n10_
              have NB418_365 := n11_
              have NB375_418 := n12_
              have NB418_375 := n13_
              have NB392_418 := n14_
              have NB418_392 := n15_
              clear n0_ n1_ n2_ n3_ n4_ n5_ n6_ n7_ n8_ n9_ n10_ n11_ n12_ n13_ n14_ n15_
              clear hb hbox hg
              refine hK.out _ _ ⟨(blk_cell BK375.out 0).trans rfl, (blk_cell BK375.out 1).trans rfl, (blk_cell BK375.out 2).trans rfl, (blk_cell BK375.out 3).trans rfl, (blk_cell BK375.out 4).trans rfl, (blk_cell BK375.out 5).trans rfl, (blk_cell BK375.out 6).trans rfl, (blk_cell BK375.out 7).trans rfl, (blk_cell BK392.out 0).trans rfl, (blk_cell BK392.out 1).trans rfl, (blk_cell BK392.out 2).trans rfl, (blk_cell BK392.out 3).trans rfl, (blk_cell BK392.out 4).trans rfl, (blk_cell BK392.out 5).trans rfl, (blk_cell BK392.out 6).trans rfl, (blk_cell BK392.out 7).trans rfl⟩ (fun hHeld => ?_)
              clear hK K
              refine norm_ (a' := ?_) ?_ ?_
              rotate_left
              ·
               show Act.put _ (some 8) _ = _
               simp only [Act.put, List.setIfInBounds_toArray, List.set_cons_zero, List.set_cons_succ, i64_w, i32_w]
               rfl
              exact norm_ (by simp only [putAll, Act.put, List.setIfInBounds_toArray, List.set_cons_zero, List.set_cons_succ]) (hCont (gb418) _ ⟨hHeld, (by (with_reducible repeat (first | refine blk_drewN ?_ _ | refine blk_drew ?_ | refine blk_alloc ?_ _)); exact BK353.out), (by (with_reducible repeat (first | refine blk_drewN ?_ _ | refine blk_drew ?_ | refine blk_alloc ?_ _)); exact BK365.out), (by (with_reducible repeat (first | refine blk_drewN ?_ _ | refine blk_drew ?_ | refine blk_alloc ?_ _)); exact BK375.out), (by (with_reducible repeat (first | refine blk_drewN ?_ _ | refine blk_drew ?_ | refine blk_alloc ?_ _)); exact BK392.out), (by (with_reducible repeat (first | refine blk_drewN ?_ _ | refine blk_drew ?_ | refine blk_alloc ?_ _)); exact BK418.out), GW418.out, GE418.out, NB353_418.out, NB418_353.out, NB365_418.out, NB418_365.out, NB375_418.out, NB418_375.out, NB392_418.out, NB418_392.out, (by repeat (first | (with_reducible first | exact HB.out | apply below_alloc | apply pw_below_drewN | apply below_drew1 | refine below_set ?_ GE353.out | refine below_set ?_ GE365.out | refine below_set ?_ GE375.out | refine below_set ?_ GE392.out | refine below_set ?_ GE418.out) | exact HB.out))⟩)
             ·
              skip
              refine box_step ?hg (N := 8) ?hd (cs := #[.int .u32 0, .int .u32 0, .int .u32 0, .int .u32 0, .int .u32 0, .int .u32 0, .int .u32 0, .int .u32 0]) (t := 41) ?hr ?_; (case hd => rfl); (case hg => rfl); (case hr => first | (go_simp; done) | (go_simp; rfl))
              intro gb418 hg w63 hbox hb
              have n0_ := law4B.keepB BK353 hb
              have n1_ := law4B.keepB BK365 hb
              have n2_ := law4B.keepB BK375 hb
              have n3_ := law4B.keepB BK392 hb
              have n4_ := Aside0.mk (below_step (by repeat (first | (with_reducible first | exact HB.out | apply below_alloc | apply pw_below_drewN | apply below_drew1 | refine below_set ?_ GE353.out | refine below_set ?_ GE365.out | refine below_set ?_ GE375.out | refine below_set ?_ GE392.out) | exact HB.out)) hb)
              have n5_ := Aside0.mk (hbox)
              have n6_ := Aside0.mk ((by rw [hg]; exact (below_size (by repeat (first | (with_reducible first | exact HB.out | apply below_alloc | apply pw_below_drewN | apply below_drew1 | refine below_set ?_ GE353.out | refine below_set ?_ GE365.out | refine below_set ?_ GE375.out | refine below_set ?_ GE392.out) | exact HB.out))) : w.heap.size ≤ gb418))
              have n7_ := Aside0.mk ((by rw [hg]; exact (below_size (by repeat (first | (with_reducible first | exact HB.out | apply below_alloc | apply pw_below_drewN | apply below_drew1 | refine below_set ?_ GE353.out | refine below_set ?_ GE365.out | refine below_set ?_ GE375.out | refine below_set ?_ GE392.out) | exact HB.out))) : w.heap.size ≤ gb418))
              have n8_ := law4B.neL BK353 hg
              have n9_ := law4B.neG BK353 hg
              have n10_ := law4B.neL BK365 hg
              have n11_ := law4B.neG BK365 hg
              have n12_ := law4B.neL BK375 hg
              have n13_ := law4B.neG BK375 hg
              have n14_ := law4B.neL BK392 hg
              have n15_ := law4B.neG BK392 hg
              clear BK353
              clear BK365
              clear BK375
              clear BK392
              clear HB
              have BK353 := n0_
              have BK365 := n1_
              have BK375 := n2_
              have BK392 := n3_
              have HB := n4_
              have BK418 := n5_
              have GW418 := n6_
              have GE418 := n7_
              have NB353_418 := n8_
              have NB418_353 := n9_
              have NB365_418 := n10_
              have NB418_365 := n11_
              have NB375_418 := n12_
              have NB418_375 := n13_
              have NB392_418 := n14_
              have NB418_392 := n15_
              clear n0_ n1_ n2_ n3_ n4_ n5_ n6_ n7_ n8_ n9_ n10_ n11_ n12_ n13_ n14_ n15_
              clear hb hbox hg
              refine hK.out _ _ ⟨(blk_cell BK375.out 0).trans rfl, (blk_cell BK375.out 1).trans rfl, (blk_cell BK375.out 2).trans rfl, (blk_cell BK375.out 3).trans rfl, (blk_cell BK375.out 4).trans rfl, (blk_cell BK375.out 5).trans rfl, (blk_cell BK375.out 6).trans rfl, (blk_cell BK375.out 7).trans rfl, (blk_cell BK392.out 0).trans rfl, (blk_cell BK392.out 1).trans rfl, (blk_cell BK392.out 2).trans rfl, (blk_cell BK392.out 3).trans rfl, (blk_cell BK392.out 4).trans rfl, (blk_cell BK392.out 5).trans rfl, (blk_cell BK392.out 6).trans rfl, (blk_cell BK392.out 7).trans rfl⟩ (fun hHeld => ?_)
              clear hK K
              refine norm_ (a' := ?_) ?_ ?_
              rotate_left
              ·
               show Act.put _ (some 8) _ = _
               simp only [Act.put, List.setIfInBounds_toArray, List.set_cons_zero, List.set_cons_succ, i64_w, i32_w]
               rfl
              refine one_ (i := 4) (N := some 68) #[T, T, T, T, T, F, F, F, T, F, F] rfl rfl (one_of HT_.out (by kernel_rfl)) (by decide) (fun K hK => ?_)
              refine goes_ Try.func15 (by kernel_rfl) rfl #[.agg #[.int .u32 t401, .int .u32 t402, .int .u32 t403, .int .u32 t404, .int .u32 t405, .int .u32 t406, .int .u32 t407, .int .u32 t408]] (by rfl) rfl rfl (by (try simp only [List.map_toArray, List.map_cons, List.map_nil]); first | done | rfl | (simp only [List.length_drop, List.length_take]; rfl)) ?_
              with_reducible refine (offertoryref09_Signed.calls t401 t402 t403 t404 t405 t406 t407 t408 t409 t410 t411 t412 t413 t414 t415 t416 t417 _ A42.out).mono ?_
              rintro e w64 ⟨rfl, hb⟩
              refine ⟨_, rfl, ?_⟩
              have n0_ := law4B.keepB BK353 hb
              have n1_ := law4B.keepB BK365 hb
              have n2_ := law4B.keepB BK375 hb
              have n3_ := law4B.keepB BK392 hb
              have n4_ := law4B.keepB BK418 hb
              have n5_ := Aside0.mk (below_step (by repeat (first | (with_reducible first | exact HB.out | apply below_alloc | apply pw_below_drewN | apply below_drew1 | refine below_set ?_ GE353.out | refine below_set ?_ GE365.out | refine below_set ?_ GE375.out | refine below_set ?_ GE392.out | refine below_set ?_ GE418.out) | exact HB.out)) hb)
              clear BK353
              clear BK365
              clear BK375
              clear BK392
              clear BK418
              clear HB
              have BK353 := n0_
              have BK365 := n1_
              have BK375 := n2_
              have BK392 := n3_
              have BK418 := n4_
              have HB := n5_
              clear n0_ n1_ n2_ n3_ n4_ n5_
              (try clear hb)
              (try clear hb2)
              (try clear hk)
              (try clear hi)
              refine hK.out _ _ ⟨(blk_cell BK375.out 0).trans rfl, (blk_cell BK375.out 1).trans rfl, (blk_cell BK375.out 2).trans rfl, (blk_cell BK375.out 3).trans rfl, (blk_cell BK375.out 4).trans rfl, (blk_cell BK375.out 5).trans rfl, (blk_cell BK375.out 6).trans rfl, (blk_cell BK375.out 7).trans rfl, (blk_cell BK392.out 0).trans rfl, (blk_cell BK392.out 1).trans rfl, (blk_cell BK392.out 2).trans rfl, (blk_cell BK392.out 3).trans rfl, (blk_cell BK392.out 4).trans rfl, (blk_cell BK392.out 5).trans rfl, (blk_cell BK392.out 6).trans rfl, (blk_cell BK392.out 7).trans rfl⟩ (fun hHeld => ?_)
              clear hK K
              refine norm_ (a' := ?_) ?_ ?_
              rotate_left
              ·
               show Act.put _ (some 68) _ = _
               simp only [Act.put, List.setIfInBounds_toArray, List.set_cons_zero, List.set_cons_succ, i64_w, i32_w]
               rfl
              refine pure_ (i := 5) (N := some 63) (v := ?_) (a' := ?_) #[T, T, T, T, T, T, F, F, T, F, F] rfl rfl (any_of HT_.out (by kernel_rfl)) (fun _ _ _ h => h) (Or.inl ⟨by rfl, ?_⟩) ?_ ?_
              rotate_left
              ·
               intro w'
               (try simp only [add_plain] at s0 s1 s2 s3 s4 s5 s6 s7 s8 s9 s10 s11 s12 s13 s14 s15)
               go_simp
               with_reducible rfl
              rotate_left
              ·
               simp only [Act.put, List.setIfInBounds_toArray, List.set_cons_zero, List.set_cons_succ, i64_w, i32_w]
               rfl
              refine pure_ (i := 6) (N := some 69) (v := ?_) (a' := ?_) #[T, T, T, T, T, T, T, F, T, F, F] rfl rfl (any_of HT_.out (by kernel_rfl)) (fun _ _ _ h => h) (Or.inl ⟨by rfl, ?_⟩) ?_ ?_
              rotate_left
              ·
               intro w'
               (try simp only [add_plain] at s0 s1 s2 s3 s4 s5 s6 s7 s8 s9 s10 s11 s12 s13 s14 s15)
               go_simp
               with_reducible rfl
              rotate_left
              ·
               simp only [Act.put, List.setIfInBounds_toArray, List.set_cons_zero, List.set_cons_succ, i64_w, i32_w]
               rfl
              refine pure_ (i := 7) (N := some 70) (v := ?_) (a' := ?_) #[T, T, T, T, T, T, T, T, T, F, F] rfl rfl (any_of HT_.out (by kernel_rfl)) (fun _ _ _ h => h) (Or.inl ⟨by rfl, ?_⟩) ?_ ?_
              rotate_left
              ·
               intro w'
               (try simp only [add_plain] at s0 s1 s2 s3 s4 s5 s6 s7 s8 s9 s10 s11 s12 s13 s14 s15)
               go_simp
               with_reducible rfl
              rotate_left
              ·
               simp only [Act.put, List.setIfInBounds_toArray, List.set_cons_zero, List.set_cons_succ, i64_w, i32_w]
               rfl
              exact norm_ (by simp only [putAll, Act.put, List.setIfInBounds_toArray, List.set_cons_zero, List.set_cons_succ]) (hCont (gb418) _ ⟨hHeld, (by (with_reducible repeat (first | refine blk_drewN ?_ _ | refine blk_drew ?_ | refine blk_alloc ?_ _)); exact BK353.out), (by (with_reducible repeat (first | refine blk_drewN ?_ _ | refine blk_drew ?_ | refine blk_alloc ?_ _)); exact BK365.out), (by (with_reducible repeat (first | refine blk_drewN ?_ _ | refine blk_drew ?_ | refine blk_alloc ?_ _)); exact BK375.out), (by (with_reducible repeat (first | refine blk_drewN ?_ _ | refine blk_drew ?_ | refine blk_alloc ?_ _)); exact BK392.out), (by (with_reducible repeat (first | refine blk_drewN ?_ _ | refine blk_drew ?_ | refine blk_alloc ?_ _)); exact BK418.out), GW418.out, GE418.out, NB353_418.out, NB418_353.out, NB365_418.out, NB418_365.out, NB375_418.out, NB418_375.out, NB392_418.out, NB418_392.out, (by repeat (first | (with_reducible first | exact HB.out | apply below_alloc | apply pw_below_drewN | apply below_drew1 | refine below_set ?_ GE353.out | refine below_set ?_ GE365.out | refine below_set ?_ GE375.out | refine below_set ?_ GE392.out | refine below_set ?_ GE418.out) | exact HB.out))⟩)
            ·
             skip
             refine box_step ?hg (N := 8) ?hd (cs := #[.int .u32 0, .int .u32 0, .int .u32 0, .int .u32 0, .int .u32 0, .int .u32 0, .int .u32 0, .int .u32 0]) (t := 41) ?hr ?_; (case hd => rfl); (case hg => rfl); (case hr => first | (go_simp; done) | (go_simp; rfl))
             intro gb418 hg w62 hbox hb
             have n0_ := law4B.keepB BK353 hb
             have n1_ := law4B.keepB BK365 hb
             have n2_ := law4B.keepB BK375 hb
             have n3_ := law4B.keepB BK392 hb
             have n4_ := Aside0.mk (below_step (by repeat (first | (with_reducible first | exact HB.out | apply below_alloc | apply pw_below_drewN | apply below_drew1 | refine below_set ?_ GE353.out | refine below_set ?_ GE365.out | refine below_set ?_ GE375.out | refine below_set ?_ GE392.out) | exact HB.out)) hb)
             have n5_ := Aside0.mk (hbox)
             have n6_ := Aside0.mk ((by rw [hg]; exact (below_size (by repeat (first | (with_reducible first | exact HB.out | apply below_alloc | apply pw_below_drewN | apply below_drew1 | refine below_set ?_ GE353.out | refine below_set ?_ GE365.out | refine below_set ?_ GE375.out | refine below_set ?_ GE392.out) | exact HB.out))) : w.heap.size ≤ gb418))
             have n7_ := Aside0.mk ((by rw [hg]; exact (below_size (by repeat (first | (with_reducible first | exact HB.out | apply below_alloc | apply pw_below_drewN | apply below_drew1 | refine below_set ?_ GE353.out | refine below_set ?_ GE365.out | refine below_set ?_ GE375.out | refine below_set ?_ GE392.out) | exact HB.out))) : w.heap.size ≤ gb418))
             have n8_ := law4B.neL BK353 hg
             have n9_ := law4B.neG BK353 hg
             have n10_ := law4B.neL BK365 hg
             have n11_ := law4B.neG BK365 hg
             have n12_ := law4B.neL BK375 hg
             have n13_ := law4B.neG BK375 hg
             have n14_ := law4B.neL BK392 hg
             have n15_ := law4B.neG BK392 hg
             clear BK353
             clear BK365
             clear BK375
             clear BK392
             clear HB
             have BK353 := n0_
             have BK365 := n1_
             have BK375 := n2_
             have BK392 := n3_
             have HB := n4_
             have BK418 := n5_
             have GW418 := n6_
             have GE418 := n7_
             have NB353_418 := n8_
             have NB418_353 := n9_
             have NB365_418 := n10_
             have NB418_365 := n11_
             have NB375_418 := n12_
             have NB418_375 := n13_
             have NB392_418 := n14_
             have NB418_392 := n15_
             clear n0_ n1_ n2_ n3_ n4_ n5_ n6_ n7_ n8_ n9_ n10_ n11_ n12_ n13_ n14_ n15_
             clear hb hbox hg
             refine hK.out _ _ ⟨(blk_cell BK375.out 0).trans rfl, (blk_cell BK375.out 1).trans rfl, (blk_cell BK375.out 2).trans rfl, (blk_cell BK375.out 3).trans rfl, (blk_cell BK375.out 4).trans rfl, (blk_cell BK375.out 5).trans rfl, (blk_cell BK375.out 6).trans rfl, (blk_cell BK375.out 7).trans rfl, (blk_cell BK392.out 0).trans rfl, (blk_cell BK392.out 1).trans rfl, (blk_cell BK392.out 2).trans rfl, (blk_cell BK392.out 3).trans rfl, (blk_cell BK392.out 4).trans rfl, (blk_cell BK392.out 5).trans rfl, (blk_cell BK392.out 6).trans rfl, (blk_cell BK392.out 7).trans rfl⟩ (fun hHeld => ?_)
             clear hK K
             refine norm_ (a' := ?_) ?_ ?_
             rotate_left
             ·
              show Act.put _ (some 8) _ = _
              simp only [Act.put, List.setIfInBounds_toArray, List.set_cons_zero, List.set_cons_succ, i64_w, i32_w]
              rfl
             refine one_ (i := 3) (N := some 67) #[T, T, T, T, F, F, F, F, T, F, F] rfl rfl (one_of HT_.out (by kernel_rfl)) (by decide) (fun K hK => ?_)
             refine goes_ Try.func16 (by kernel_rfl) rfl #[.agg #[.int .u32 x376000_14, .int .u32 x376001_14, .int .u32 x376002_14, .int .u32 x376003_14, .int .u32 x376004_14, .int .u32 x376005_14, .int .u32 x376006_14, .int .u32 x376007_14], .agg #[.int .u32 t393, .int .u32 t394, .int .u32 t395, .int .u32 t396, .int .u32 t397, .int .u32 t398, .int .u32 t399, .int .u32 t400]] (by rfl) rfl rfl (by (try simp only [List.map_toArray, List.map_cons, List.map_nil]); first | done | rfl | (simp only [List.length_drop, List.length_take]; rfl)) ?_
             with_reducible refine (offertoryref09_Add.calls x376000_14 x376001_14 x376002_14 x376003_14 x376004_14 x376005_14 x376006_14 x376007_14 t393 t394 t395 t396 t397 t398 t399 t400 t401 t402 t403 t404 t405 t406 t407 t408 _ A41.out).mono ?_
             rintro e w63 ⟨rfl, hb⟩
             refine ⟨_, rfl, ?_⟩
             have n0_ := law4B.keepB BK353 hb
             have n1_ := law4B.keepB BK365 hb
             have n2_ := law4B.keepB BK375 hb
             have n3_ := law4B.keepB BK392 hb
             have n4_ := law4B.keepB BK418 hb
             have n5_ := Aside0.mk (below_step (by repeat (first | (with_reducible first | exact HB.out | apply below_alloc | apply pw_below_drewN | apply below_drew1 | refine below_set ?_ GE353.out | refine below_set ?_ GE365.out | refine below_set ?_ GE375.out | refine below_set ?_ GE392.out | refine below_set ?_ GE418.out) | exact HB.out)) hb)
             clear BK353
             clear BK365
             clear BK375
             clear BK392
             clear BK418
             clear HB
             have BK353 := n0_
             have BK365 := n1_
             have BK375 := n2_
             have BK392 := n3_
             have BK418 := n4_
             have HB := n5_
             clear n0_ n1_ n2_ n3_ n4_ n5_
             (try clear hb)
             (try clear hb2)
             (try clear hk)
             (try clear hi)
             refine hK.out _ _ ⟨(blk_cell BK375.out 0).trans rfl, (blk_cell BK375.out 1).trans rfl, (blk_cell BK375.out 2).trans rfl, (blk_cell BK375.out 3).trans rfl, (blk_cell BK375.out 4).trans rfl, (blk_cell BK375.out 5).trans rfl, (blk_cell BK375.out 6).trans rfl, (blk_cell BK375.out 7).trans rfl, (blk_cell BK392.out 0).trans rfl, (blk_cell BK392.out 1).trans rfl, (blk_cell BK392.out 2).trans rfl, (blk_cell BK392.out 3).trans rfl, (blk_cell BK392.out 4).trans rfl, (blk_cell BK392.out 5).trans rfl, (blk_cell BK392.out 6).trans rfl, (blk_cell BK392.out 7).trans rfl⟩ (fun hHeld => ?_)
             clear hK K
             refine norm_ (a' := ?_) ?_ ?_
             rotate_left
             ·
              show Act.put _ (some 67) _ = _
              simp only [Act.put, List.setIfInBounds_toArray, List.set_cons_zero, List.set_cons_succ, i64_w, i32_w]
              rfl
             refine one_ (i := 4) (N := some 68) #[T, T, T, T, T, F, F, F, T, F, F] rfl rfl (one_of HT_.out (by kernel_rfl)) (by decide) (fun K hK => ?_)
             refine goes_ Try.func15 (by kernel_rfl) rfl #[.agg #[.int .u32 t401, .int .u32 t402, .int .u32 t403, .int .u32 t404, .int .u32 t405, .int .u32 t406, .int .u32 t407, .int .u32 t408]] (by rfl) rfl rfl (by (try simp only [List.map_toArray, List.map_cons, List.map_nil]); first | done | rfl | (simp only [List.length_drop, List.length_take]; rfl)) ?_
             with_reducible refine (offertoryref09_Signed.calls t401 t402 t403 t404 t405 t406 t407 t408 t409 t410 t411 t412 t413 t414 t415 t416 t417 _ A42.out).mono ?_
             rintro e w64 ⟨rfl, hb⟩
             refine ⟨_, rfl, ?_⟩
             have n0_ := law4B.keepB BK353 hb
             have n1_ := law4B.keepB BK365 hb
             have n2_ := law4B.keepB BK375 hb
             have n3_ := law4B.keepB BK392 hb
             have n4_ := law4B.keepB BK418 hb
             have n5_ := Aside0.mk (below_step (by repeat (first | (with_reducible first | exact HB.out | apply below_alloc | apply pw_below_drewN | apply below_drew1 | refine below_set ?_ GE353.out | refine below_set ?_ GE365.out | refine below_set ?_ GE375.out | refine below_set ?_ GE392.out | refine below_set ?_ GE418.out) | exact HB.out)) hb)
             clear BK353
             clear BK365
             clear BK375
             clear BK392
             clear BK418
             clear HB
             have BK353 := n0_
             have BK365 := n1_
             have BK375 := n2_
             have BK392 := n3_
             have BK418 := n4_
             have HB := n5_
             clear n0_ n1_ n2_ n3_ n4_ n5_
             (try clear hb)
             (try clear hb2)
             (try clear hk)
             (try clear hi)
             refine hK.out _ _ ⟨(blk_cell BK375.out 0).trans rfl, (blk_cell BK375.out 1).trans rfl, (blk_cell BK375.out 2).trans rfl, (blk_cell BK375.out 3).trans rfl, (blk_cell BK375.out 4).trans rfl, (blk_cell BK375.out 5).trans rfl, (blk_cell BK375.out 6).trans rfl, (blk_cell BK375.out 7).trans rfl, (blk_cell BK392.out 0).trans rfl, (blk_cell BK392.out 1).trans rfl, (blk_cell BK392.out 2).trans rfl, (blk_cell BK392.out 3).trans rfl, (blk_cell BK392.out 4).trans rfl, (blk_cell BK392.out 5).trans rfl, (blk_cell BK392.out 6).trans rfl, (blk_cell BK392.out 7).trans rfl⟩ (fun hHeld => ?_)
             clear hK K
             refine norm_ (a' := ?_) ?_ ?_
             rotate_left
             ·
              show Act.put _ (some 68) _ = _
              simp only [Act.put, List.setIfInBounds_toArray, List.set_cons_zero, List.set_cons_succ, i64_w, i32_w]
              rfl
             refine pure_ (i := 5) (N := some 63) (v := ?_) (a' := ?_) #[T, T, T, T, T, T, F, F, T, F, F] rfl rfl (any_of HT_.out (by kernel_rfl)) (fun _ _ _ h => h) (Or.inl ⟨by rfl, ?_⟩) ?_ ?_
             rotate_left
             ·
              intro w'
              (try simp only [add_plain] at s0 s1 s2 s3 s4 s5 s6 s7 s8 s9 s10 s11 s12 s13 s14 s15)
              go_simp
              with_reducible rfl
             rotate_left
             ·
              simp only [Act.put, List.setIfInBounds_toArray, List.set_cons_zero, List.set_cons_succ, i64_w, i32_w]
              rfl
             refine pure_ (i := 6) (N := some 69) (v := ?_) (a' := ?_) #[T, T, T, T, T, T, T, F, T, F, F] rfl rfl (any_of HT_.out (by kernel_rfl)) (fun _ _ _ h => h) (Or.inl ⟨by rfl, ?_⟩) ?_ ?_
             rotate_left
             ·
              intro w'
              (try simp only [add_plain] at s0 s1 s2 s3 s4 s5 s6 s7 s8 s9 s10 s11 s12 s13 s14 s15)
              go_simp
              with_reducible rfl
             rotate_left
             ·
              simp only [Act.put, List.setIfInBounds_toArray, List.set_cons_zero, List.set_cons_succ, i64_w, i32_w]
              rfl
             refine pure_ (i := 7) (N := some 70) (v := ?_) (a' := ?_) #[T, T, T, T, T, T, T, T, T, F, F] rfl rfl (any_of HT_.out (by kernel_rfl)) (fun _ _ _ h => h) (Or.inl ⟨by rfl, ?_⟩) ?_ ?_
             rotate_left
             ·
              intro w'
              (try simp only [add_plain] at s0 s1 s2 s3 s4 s5 s6 s7 s8 s9 s10 s11 s12 s13 s14 s15)
              go_simp
              with_reducible rfl
             rotate_left
             ·
              simp only [Act.put, List.setIfInBounds_toArray, List.set_cons_zero, List.set_cons_succ, i64_w, i32_w]
              rfl
             exact norm_ (by simp only [putAll, Act.put, List.setIfInBounds_toArray, List.set_cons_zero, List.set_cons_succ]) (hCont (gb418) _ ⟨hHeld, (by (with_reducible repeat (first | refine blk_drewN ?_ _ | refine blk_drew ?_ | refine blk_alloc ?_ _)); exact BK353.out), (by (with_reducible repeat (first | refine blk_drewN ?_ _ | refine blk_drew ?_ | refine blk_alloc ?_ _)); exact BK365.out), (by (with_reducible repeat (first | refine blk_drewN ?_ _ | refine blk_drew ?_ | refine blk_alloc ?_ _)); exact BK375.out), (by (with_reducible repeat (first | refine blk_drewN ?_ _ | refine blk_drew ?_ | refine blk_alloc ?_ _)); exact BK392.out), (by (with_reducible repeat (first | refine blk_drewN ?_ _ | refine blk_drew ?_ | refine blk_alloc ?_ _)); exact BK418.out), GW418.out, GE418.out, NB353_418.out, NB418_353.out, NB365_418.out, NB418_365.out, NB375_418.out, NB418_375.out, NB392_418.out, NB418_392.out, (by repeat (first | (with_reducible first | exact HB.out | apply below_alloc | apply pw_below_drewN | apply below_drew1 | refine below_set ?_ GE353.out | refine below_set ?_ GE365.out | refine below_set ?_ GE375.out | refine below_set ?_ GE392.out | refine below_set ?_ GE418.out) | exact HB.out))⟩)
           ·
            skip
            refine box_step ?hg (N := 8) ?hd (cs := #[.int .u32 0, .int .u32 0, .int .u32 0, .int .u32 0, .int .u32 0, .int .u32 0, .int .u32 0, .int .u32 0]) (t := 41) ?hr ?_; (case hd => rfl); (case hg => rfl); (case hr => first | (go_simp; done) | (go_simp; rfl))
            intro gb418 hg w61 hbox hb
            have n0_ := law4B.keepB BK353 hb
            have n1_ := law4B.keepB BK365 hb
            have n2_ := law4B.keepB BK375 hb
            have n3_ := law4B.keepB BK392 hb
            have n4_ := Aside0.mk (below_step (by repeat (first | (with_reducible first | exact HB.out | apply below_alloc | apply pw_below_drewN | apply below_drew1 | refine below_set ?_ GE353.out | refine below_set ?_ GE365.out | refine below_set ?_ GE375.out | refine below_set ?_ GE392.out) | exact HB.out)) hb)
            have n5_ := Aside0.mk (hbox)
            have n6_ := Aside0.mk ((by rw [hg]; exact (below_size (by repeat (first | (with_reducible first | exact HB.out | apply below_alloc | apply pw_below_drewN | apply below_drew1 | refine below_set ?_ GE353.out | refine below_set ?_ GE365.out | refine below_set ?_ GE375.out | refine below_set ?_ GE392.out) | exact HB.out))) : w.heap.size ≤ gb418))
            have n7_ := Aside0.mk ((by rw [hg]; exact (below_size (by repeat (first | (with_reducible first | exact HB.out | apply below_alloc | apply pw_below_drewN | apply below_drew1 | refine below_set ?_ GE353.out | refine below_set ?_ GE365.out | refine below_set ?_ GE375.out | refine below_set ?_ GE392.out) | exact HB.out))) : w.heap.size ≤ gb418))
            have n8_ := law4B.neL BK353 hg
            have n9_ := law4B.neG BK353 hg
            have n10_ := law4B.neL BK365 hg
            have n11_ := law4B.neG BK365 hg
            have n12_ := law4B.neL BK375 hg
            have n13_ := law4B.neG BK375 hg
            have n14_ := law4B.neL BK392 hg
            have n15_ := law4B.neG BK392 hg
            clear BK353
            clear BK365
            clear BK375
            clear BK392
            clear HB
            have BK353 := n0_
            have BK365 := n1_
            have BK375 := n2_
            have BK392 := n3_
            have HB := n4_
            have BK418 := n5_
            have GW418 := n6_
            have GE418 := n7_
            have NB353_418 := n8_
            have NB418_353 := n9_
            have NB365_418 := n10_
            have NB418_365 := n11_
            have NB375_418 := n12_
            have NB418_375 := n13_
            have NB392_418 := n14_
            have NB418_392 := n15_
            clear n0_ n1_ n2_ n3_ n4_ n5_ n6_ n7_ n8_ n9_ n10_ n11_ n12_ n13_ n14_ n15_
            clear hb hbox hg
            refine hK.out _ _ ⟨(blk_cell BK375.out 0).trans rfl, (blk_cell BK375.out 1).trans rfl, (blk_cell BK375.out 2).trans rfl, (blk_cell BK375.out 3).trans rfl, (blk_cell BK375.out 4).trans rfl, (blk_cell BK375.out 5).trans rfl, (blk_cell BK375.out 6).trans rfl, (blk_cell BK375.out 7).trans rfl, (blk_cell BK392.out 0).trans rfl, (blk_cell BK392.out 1).trans rfl, (blk_cell BK392.out 2).trans rfl, (blk_cell BK392.out 3).trans rfl, (blk_cell BK392.out 4).trans rfl, (blk_cell BK392.out 5).trans rfl, (blk_cell BK392.out 6).trans rfl, (blk_cell BK392.out 7).trans rfl⟩ (fun hHeld => ?_)
            clear hK K
            refine norm_ (a' := ?_) ?_ ?_
            rotate_left
            ·
             show Act.put _ (some 8) _ = _
             simp only [Act.put, List.setIfInBounds_toArray, List.set_cons_zero, List.set_cons_succ, i64_w, i32_w]
             rfl
            refine one_ (i := 2) (N := some 66) #[T, T, T, F, F, F, F, F, T, F, F] rfl rfl (one_of HT_.out (by kernel_rfl)) (by decide) (fun K hK => ?_)
            refine goes_ Try.func13 (by kernel_rfl) rfl #[.agg #[.int .u32 t384, .int .u32 t385, .int .u32 t386, .int .u32 t387, .int .u32 t388, .int .u32 t389, .int .u32 t390, .int .u32 t391]] (by rfl) rfl rfl (by (try simp only [List.map_toArray, List.map_cons, List.map_nil]); first | done | rfl | (simp only [List.length_drop, List.length_take]; rfl)) ?_
            with_reducible refine (offertoryref09_Neg.calls t384 t385 t386 t387 t388 t389 t390 t391 t393 t394 t395 t396 t397 t398 t399 t400 _ A40.out).mono ?_
            rintro e w62 ⟨rfl, hb⟩
            refine ⟨_, rfl, ?_⟩
            have n0_ := law4B.keepB BK353 hb
            have n1_ := law4B.keepB BK365 hb
            have n2_ := law4B.keepB BK375 hb
            have n3_ := law4B.keepB BK392 hb
            have n4_ := law4B.keepB BK418 hb
            have n5_ := Aside0.mk (below_step (by repeat (first | (with_reducible first | exact HB.out | apply below_alloc | apply pw_below_drewN | apply below_drew1 | refine below_set ?_ GE353.out | refine below_set ?_ GE365.out | refine below_set ?_ GE375.out | refine below_set ?_ GE392.out | refine below_set ?_ GE418.out) | exact HB.out)) hb)
            clear BK353
            clear BK365
            clear BK375
            clear BK392
            clear BK418
            clear HB
            have BK353 := n0_
            have BK365 := n1_
            have BK375 := n2_
            have BK392 := n3_
            have BK418 := n4_
            have HB := n5_
            clear n0_ n1_ n2_ n3_ n4_ n5_
            (try clear hb)
            (try clear hb2)
            (try clear hk)
            (try clear hi)
            refine hK.out _ _ ⟨(blk_cell BK375.out 0).trans rfl, (blk_cell BK375.out 1).trans rfl, (blk_cell BK375.out 2).trans rfl, (blk_cell BK375.out 3).trans rfl, (blk_cell BK375.out 4).trans rfl, (blk_cell BK375.out 5).trans rfl, (blk_cell BK375.out 6).trans rfl, (blk_cell BK375.out 7).trans rfl, (blk_cell BK392.out 0).trans rfl, (blk_cell BK392.out 1).trans rfl, (blk_cell BK392.out 2).trans rfl, (blk_cell BK392.out 3).trans rfl, (blk_cell BK392.out 4).trans rfl, (blk_cell BK392.out 5).trans rfl, (blk_cell BK392.out 6).trans rfl, (blk_cell BK392.out 7).trans rfl⟩ (fun hHeld => ?_)
            clear hK K
            refine norm_ (a' := ?_) ?_ ?_
            rotate_left
            ·
             show Act.put _ (some 66) _ = _
             simp only [Act.put, List.setIfInBounds_toArray, List.set_cons_zero, List.set_cons_succ, i64_w, i32_w]
             rfl
            refine one_ (i := 3) (N := some 67) #[T, T, T, T, F, F, F, F, T, F, F] rfl rfl (one_of HT_.out (by kernel_rfl)) (by decide) (fun K hK => ?_)
            refine goes_ Try.func16 (by kernel_rfl) rfl #[.agg #[.int .u32 x376000_14, .int .u32 x376001_14, .int .u32 x376002_14, .int .u32 x376003_14, .int .u32 x376004_14, .int .u32 x376005_14, .int .u32 x376006_14, .int .u32 x376007_14], .agg #[.int .u32 t393, .int .u32 t394, .int .u32 t395, .int .u32 t396, .int .u32 t397, .int .u32 t398, .int .u32 t399, .int .u32 t400]] (by rfl) rfl rfl (by (try simp only [List.map_toArray, List.map_cons, List.map_nil]); first | done | rfl | (simp only [List.length_drop, List.length_take]; rfl)) ?_
            with_reducible refine (offertoryref09_Add.calls x376000_14 x376001_14 x376002_14 x376003_14 x376004_14 x376005_14 x376006_14 x376007_14 t393 t394 t395 t396 t397 t398 t399 t400 t401 t402 t403 t404 t405 t406 t407 t408 _ A41.out).mono ?_
            rintro e w63 ⟨rfl, hb⟩
            refine ⟨_, rfl, ?_⟩
            have n0_ := law4B.keepB BK353 hb
            have n1_ := law4B.keepB BK365 hb
            have n2_ := law4B.keepB BK375 hb
            have n3_ := law4B.keepB BK392 hb
            have n4_ := law4B.keepB BK418 hb
            have n5_ := Aside0.mk (below_step (by repeat (first | (with_reducible first | exact HB.out | apply below_alloc | apply pw_below_drewN | apply below_drew1 | refine below_set ?_ GE353.out | refine below_set ?_ GE365.out | refine below_set ?_ GE375.out | refine below_set ?_ GE392.out | refine below_set ?_ GE418.out) | exact HB.out)) hb)
            clear BK353
            clear BK365
            clear BK375
            clear BK392
            clear BK418
            clear HB
            have BK353 := n0_
            have BK365 := n1_
            have BK375 := n2_
            have BK392 := n3_
            have BK418 := n4_
            have HB := n5_
            clear n0_ n1_ n2_ n3_ n4_ n5_
            (try clear hb)
            (try clear hb2)
            (try clear hk)
            (try clear hi)
            refine hK.out _ _ ⟨(blk_cell BK375.out 0).trans rfl, (blk_cell BK375.out 1).trans rfl, (blk_cell BK375.out 2).trans rfl, (blk_cell BK375.out 3).trans rfl, (blk_cell BK375.out 4).trans rfl, (blk_cell BK375.out 5).trans rfl, (blk_cell BK375.out 6).trans rfl, (blk_cell BK375.out 7).trans rfl, (blk_cell BK392.out 0).trans rfl, (blk_cell BK392.out 1).trans rfl, (blk_cell BK392.out 2).trans rfl, (blk_cell BK392.out 3).trans rfl, (blk_cell BK392.out 4).trans rfl, (blk_cell BK392.out 5).trans rfl, (blk_cell BK392.out 6).trans rfl, (blk_cell BK392.out 7).trans rfl⟩ (fun hHeld => ?_)
            clear hK K
            refine norm_ (a' := ?_) ?_ ?_
            rotate_left
            ·
             show Act.put _ (some 67) _ = _
             simp only [Act.put, List.setIfInBounds_toArray, List.set_cons_zero, List.set_cons_succ, i64_w, i32_w]
             rfl
            refine one_ (i := 4) (N := some 68) #[T, T, T, T, T, F, F, F, T, F, F] rfl rfl (one_of HT_.out (by kernel_rfl)) (by decide) (fun K hK => ?_)
            refine goes_ Try.func15 (by kernel_rfl) rfl #[.agg #[.int .u32 t401, .int .u32 t402, .int .u32 t403, .int .u32 t404, .int .u32 t405, .int .u32 t406, .int .u32 t407, .int .u32 t408]] (by rfl) rfl rfl (by (try simp only [List.map_toArray, List.map_cons, List.map_nil]); first | done | rfl | (simp only [List.length_drop, List.length_take]; rfl)) ?_
            with_reducible refine (offertoryref09_Signed.calls t401 t402 t403 t404 t405 t406 t407 t408 t409 t410 t411 t412 t413 t414 t415 t416 t417 _ A42.out).mono ?_
            rintro e w64 ⟨rfl, hb⟩
            refine ⟨_, rfl, ?_⟩
            have n0_ := law4B.keepB BK353 hb
            have n1_ := law4B.keepB BK365 hb
            have n2_ := law4B.keepB BK375 hb
            have n3_ := law4B.keepB BK392 hb
            have n4_ := law4B.keepB BK418 hb
            have n5_ := Aside0.mk (below_step (by repeat (first | (with_reducible first | exact HB.out | apply below_alloc | apply pw_below_drewN | apply below_drew1 | refine below_set ?_ GE353.out | refine below_set ?_ GE365.out | refine below_set ?_ GE375.out | refine below_set ?_ GE392.out | refine below_set ?_ GE418.out) | exact HB.out)) hb)
            clear BK353
            clear BK365
            clear BK375
            clear BK392
            clear BK418
            clear HB
            have BK353 := n0_
            have BK365 := n1_
            have BK375 := n2_
            have BK392 := n3_
            have BK418 := n4_
            have HB := n5_
            clear n0_ n1_ n2_ n3_ n4_ n5_
            (try clear hb)
            (try clear hb2)
            (try clear hk)
            (try clear hi)
            refine hK.out _ _ ⟨(blk_cell BK375.out 0).trans rfl, (blk_cell BK375.out 1).trans rfl, (blk_cell BK375.out 2).trans rfl, (blk_cell BK375.out 3).trans rfl, (blk_cell BK375.out 4).trans rfl, (blk_cell BK375.out 5).trans rfl, (blk_cell BK375.out 6).trans rfl, (blk_cell BK375.out 7).trans rfl, (blk_cell BK392.out 0).trans rfl, (blk_cell BK392.out 1).trans rfl, (blk_cell BK392.out 2).trans rfl, (blk_cell BK392.out 3).trans rfl, (blk_cell BK392.out 4).trans rfl, (blk_cell BK392.out 5).trans rfl, (blk_cell BK392.out 6).trans rfl, (blk_cell BK392.out 7).trans rfl⟩ (fun hHeld => ?_)
            clear hK K
            refine norm_ (a' := ?_) ?_ ?_
            rotate_left
            ·
             show Act.put _ (some 68) _ = _
             simp only [Act.put, List.setIfInBounds_toArray, List.set_cons_zero, List.set_cons_succ, i64_w, i32_w]
             rfl
            refine pure_ (i := 5) (N := some 63) (v := ?_) (a' := ?_) #[T, T, T, T, T, T, F, F, T, F, F] rfl rfl (any_of HT_.out (by kernel_rfl)) (fun _ _ _ h => h) (Or.inl ⟨by rfl, ?_⟩) ?_ ?_
            rotate_left
            ·
             intro w'
             (try simp only [add_plain] at s0 s1 s2 s3 s4 s5 s6 s7 s8 s9 s10 s11 s12 s13 s14 s15)
             go_simp
             with_reducible rfl
            rotate_left
            ·
             simp only [Act.put, List.setIfInBounds_toArray, List.set_cons_zero, List.set_cons_succ, i64_w, i32_w]
             rfl
            refine pure_ (i := 6) (N := some 69) (v := ?_) (a' := ?_) #[T, T, T, T, T, T, T, F, T, F, F] rfl rfl (any_of HT_.out (by kernel_rfl)) (fun _ _ _ h => h) (Or.inl ⟨by rfl, ?_⟩) ?_ ?_
            rotate_left
            ·
             intro w'
             (try simp only [add_plain] at s0 s1 s2 s3 s4 s5 s6 s7 s8 s9 s10 s11 s12 s13 s14 s15)
             go_simp
             with_reducible rfl
            rotate_left
            ·
             simp only [Act.put, List.setIfInBounds_toArray, List.set_cons_zero, List.set_cons_succ, i64_w, i32_w]
             rfl
            refine pure_ (i := 7) (N := some 70) (v := ?_) (a' := ?_) #[T, T, T, T, T, T, T, T, T, F, F] rfl rfl (any_of HT_.out (by kernel_rfl)) (fun _ _ _ h => h) (Or.inl ⟨by rfl, ?_⟩) ?_ ?_
            rotate_left
            ·
             intro w'
             (try simp only [add_plain] at s0 s1 s2 s3 s4 s5 s6 s7 s8 s9 s10 s11 s12 s13 s14 s15)
             go_simp
             with_reducible rfl
            rotate_left
            ·
             simp only [Act.put, List.setIfInBounds_toArray, List.set_cons_zero, List.set_cons_succ, i64_w, i32_w]
             rfl
            exact norm_ (by simp only [putAll, Act.put, List.setIfInBounds_toArray, List.set_cons_zero, List.set_cons_succ]) (hCont (gb418) _ ⟨hHeld, (by (with_reducible repeat (first | refine blk_drewN ?_ _ | refine blk_drew ?_ | refine blk_alloc ?_ _)); exact BK353.out), (by (with_reducible repeat (first | refine blk_drewN ?_ _ | refine blk_drew ?_ | refine blk_alloc ?_ _)); exact BK365.out), (by (with_reducible repeat (first | refine blk_drewN ?_ _ | refine blk_drew ?_ | refine blk_alloc ?_ _)); exact BK375.out), (by (with_reducible repeat (first | refine blk_drewN ?_ _ | refine blk_drew ?_ | refine blk_alloc ?_ _)); exact BK392.out), (by (with_reducible repeat (first | refine blk_drewN ?_ _ | refine blk_drew ?_ | refine blk_alloc ?_ _)); exact BK418.out), GW418.out, GE418.out, NB353_418.out, NB418_353.out, NB365_418.out, NB418_365.out, NB375_418.out, NB418_375.out, NB392_418.out, NB418_392.out, (by repeat (first | (with_reducible first | exact HB.out | apply below_alloc | apply pw_below_drewN | apply below_drew1 | refine below_set ?_ GE353.out | refine below_set ?_ GE365.out | refine below_set ?_ GE375.out | refine below_set ?_ GE392.out | refine below_set ?_ GE418.out) | exact HB.out))⟩)
          rintro gb418 w65 ⟨hS_, h0_, h1_, h2_, h3_, h4_, h5_, h6_, h7_, h8_, h9_, h10_, h11_, h12_, h13_, h14_, h15_⟩
          have n0_ : Aside0 (w65.heap[gb353]? = some (.cells #[.slice A0_0 l0_0.length c0_0, .int .i64 a0_1, .int .u64 a0_2, .int .u64 a0_3, .int .u64 a0_4, .int .u64 a0_5, .bool true] 36 (0, 0))) := ⟨h0_⟩
          have n1_ : Aside0 (w65.heap[gb365]? = some (.cells #[.int .u32 t357, .int .u32 t358, .int .u32 t359, .int .u32 t360, .int .u32 t361, .int .u32 t362, .int .u32 t363, .int .u32 t364] 41 (0, 0))) := ⟨h1_⟩
          have n2_ : Aside0 (w65.heap[gb375]? = some (.cells #[.int .u32 x376000_14, .int .u32 x376001_14, .int .u32 x376002_14, .int .u32 x376003_14, .int .u32 x376004_14, .int .u32 x376005_14, .int .u32 x376006_14, .int .u32 x376007_14] 41 (0, 0))) := ⟨h2_⟩
          have n3_ : Aside0 (w65.heap[gb392]? = some (.cells #[.int .u32 t384, .int .u32 t385, .int .u32 t386, .int .u32 t387, .int .u32 t388, .int .u32 t389, .int .u32 t390, .int .u32 t391] 41 (0, 0))) := ⟨h3_⟩
          have n4_ : Aside0 (w65.heap[gb418]? = some (.cells #[.int .u32 0, .int .u32 0, .int .u32 0, .int .u32 0, .int .u32 0, .int .u32 0, .int .u32 0, .int .u32 0] 41 (0, 0))) := ⟨h4_⟩
          have n5_ : Aside0 (w.heap.size ≤ gb418) := ⟨h5_⟩
          have n6_ : Aside0 (w.heap.size ≤ gb418) := ⟨h6_⟩
          have n7_ : Aside0 (gb353 ≠ gb418) := ⟨h7_⟩
          have n8_ : Aside0 (gb418 ≠ gb353) := ⟨h8_⟩
          have n9_ : Aside0 (gb365 ≠ gb418) := ⟨h9_⟩
          have n10_ : Aside0 (gb418 ≠ gb365) := ⟨h10_⟩
          have n11_ : Aside0 (gb375 ≠ gb418) := ⟨h11_⟩
          have n12_ : Aside0 (gb418 ≠ gb375) := ⟨h12_⟩
          have n13_ : Aside0 (gb392 ≠ gb418) := ⟨h13_⟩
          have n14_ : Aside0 (gb418 ≠ gb392) := ⟨h14_⟩
          have n15_ : Aside0 (Below w.heap.size w w65) := ⟨h15_⟩
          clear BK353
          clear BK365
          clear BK375
          clear BK392
          clear HB
          clear h0_ h1_ h2_ h3_ h4_ h5_ h6_ h7_ h8_ h9_ h10_ h11_ h12_ h13_ h14_ h15_
          have BK353 := n0_
          have BK365 := n1_
          have BK375 := n2_
          have BK392 := n3_
          have BK418 := n4_
          have GW418 := n5_
          have GE418 := n6_
          have NB353_418 := n7_
          have NB418_353 := n8_
          have NB365_418 := n9_
          have NB418_365 := n10_
          have NB375_418 := n11_
          have NB418_375 := n12_
          have NB392_418 := n13_
          have NB418_392 := n14_
          have HB := n15_
          clear n0_ n1_ n2_ n3_ n4_ n5_ n6_ n7_ n8_ n9_ n10_ n11_ n12_ n13_ n14_ n15_
          have hHeld : w65.cell? ⟨gb375, 0, none⟩ = some (.int .u32 x376000_14) ∧ w65.cell? ⟨gb375, 1, none⟩ = some (.int .u32 x376001_14) ∧ w65.cell? ⟨gb375, 2, none⟩ = some (.int .u32 x376002_14) ∧ w65.cell? ⟨gb375, 3, none⟩ = some (.int .u32 x376003_14) ∧ w65.cell? ⟨gb375, 4, none⟩ = some (.int .u32 x376004_14) ∧ w65.cell? ⟨gb375, 5, none⟩ = some (.int .u32 x376005_14) ∧ w65.cell? ⟨gb375, 6, none⟩ = some (.int .u32 x376006_14) ∧ w65.cell? ⟨gb375, 7, none⟩ = some (.int .u32 x376007_14) ∧ w65.cell? ⟨gb392, 0, none⟩ = some (.int .u32 t384) ∧ w65.cell? ⟨gb392, 1, none⟩ = some (.int .u32 t385) ∧ w65.cell? ⟨gb392, 2, none⟩ = some (.int .u32 t386) ∧ w65.cell? ⟨gb392, 3, none⟩ = some (.int .u32 t387) ∧ w65.cell? ⟨gb392, 4, none⟩ = some (.int .u32 t388) ∧ w65.cell? ⟨gb392, 5, none⟩ = some (.int .u32 t389) ∧ w65.cell? ⟨gb392, 6, none⟩ = some (.int .u32 t390) ∧ w65.cell? ⟨gb392, 7, none⟩ = some (.int .u32 t391) := hS_
          refine norm_ (a' := ?_) ?_ ?_
          rotate_left
          ·
           simp only [putAll, Act.put, List.setIfInBounds_toArray, List.set_cons_zero, List.set_cons_succ]
           rfl
          refine one_ (i := 9) (N := none) #[T, T, T, T, T, T, T, T, T, T, F] rfl rfl (one_of HT_.out (by kernel_rfl)) (by decide) (fun K hK => ?_)
          have hs66 : w65.cell? ⟨gb418, 0, none⟩ = some (.int .u32 0) := (blk_cell BK418.out 0).trans rfl
          have hfs66 := blk_frozen BK418.out 0
          have hns66_0 := NB353_418.out
          have hns66_1 := NB365_418.out
          have hns66_2 := NB375_418.out
          have hns66_3 := NB392_418.out
          have hms66_0 := NB418_353.out
          have hms66_1 := NB418_365.out
          have hms66_2 := NB418_375.out
          have hms66_3 := NB418_392.out
          have hs67 : w65.cell? ⟨gb418, 1, none⟩ = some (.int .u32 0) := (blk_cell BK418.out 1).trans rfl
          have hfs67 := blk_frozen BK418.out 1
          have hns67_0 := NB353_418.out
          have hns67_1 := NB365_418.out
          have hns67_2 := NB375_418.out
          have hns67_3 := NB392_418.out
          have hms67_0 := NB418_353.out
          have hms67_1 := NB418_365.out
          have hms67_2 := NB418_375.out
          have hms67_3 := NB418_392.out
          have hs68 : w65.cell? ⟨gb418, 2, none⟩ = some (.int .u32 0) := (blk_cell BK418.out 2).trans rfl
          have hfs68 := blk_frozen BK418.out 2
          have hns68_0 := NB353_418.out
          have hns68_1 := NB365_418.out
          have hns68_2 := NB375_418.out
          have hns68_3 := NB392_418.out
          have hms68_0 := NB418_353.out
          have hms68_1 := NB418_365.out
          have hms68_2 := NB418_375.out
          have hms68_3 := NB418_392.out
          have hs69 : w65.cell? ⟨gb418, 3, none⟩ = some (.int .u32 0) := (blk_cell BK418.out 3).trans rfl
          have hfs69 := blk_frozen BK418.out 3
          have hns69_0 := NB353_418.out
          have hns69_1 := NB365_418.out
          have hns69_2 := NB375_418.out
          have hns69_3 := NB392_418.out
          have hms69_0 := NB418_353.out
          have hms69_1 := NB418_365.out
          have hms69_2 := NB418_375.out
          have hms69_3 := NB418_392.out
          have hs70 : w65.cell? ⟨gb418, 4, none⟩ = some (.int .u32 0) := (blk_cell BK418.out 4).trans rfl
          have hfs70 := blk_frozen BK418.out 4
          have hns70_0 := NB353_418.out
          have hns70_1 := NB365_418.out
          have hns70_2 := NB375_418.out
          have hns70_3 := NB392_418.out
          have hms70_0 := NB418_353.out
          have hms70_1 := NB418_365.out
          have hms70_2 := NB418_375.out
          have hms70_3 := NB418_392.out
          have hs71 : w65.cell? ⟨gb418, 5, none⟩ = some (.int .u32 0) := (blk_cell BK418.out 5).trans rfl
          have hfs71 := blk_frozen BK418.out 5
          have hns71_0 := NB353_418.out
          have hns71_1 := NB365_418.out
          have hns71_2 := NB375_418.out
          have hns71_3 := NB392_418.out
          have hms71_0 := NB418_353.out
          have hms71_1 := NB418_365.out
          have hms71_2 := NB418_375.out
          have hms71_3 := NB418_392.out
          have hs72 : w65.cell? ⟨gb418, 6, none⟩ = some (.int .u32 0) := (blk_cell BK418.out 6).trans rfl
          have hfs72 := blk_frozen BK418.out 6
          have hns72_0 := NB353_418.out
          have hns72_1 := NB365_418.out
          have hns72_2 := NB375_418.out
          have hns72_3 := NB392_418.out
          have hms72_0 := NB418_353.out
          have hms72_1 := NB418_365.out
          have hms72_2 := NB418_375.out
          have hms72_3 := NB418_392.out
          have hs73 : w65.cell? ⟨gb418, 7, none⟩ = some (.int .u32 0) := (blk_cell BK418.out 7).trans rfl
          have hfs73 := blk_frozen BK418.out 7
          have hns73_0 := NB353_418.out
          have hns73_1 := NB365_418.out
          have hns73_2 := NB375_418.out
          have hns73_3 := NB392_418.out
          have hms73_0 := NB418_353.out
          have hms73_1 := NB418_365.out
          have hms73_2 := NB418_375.out
          have hms73_3 := NB418_392.out
          refine skip_ (w1 := ?_) (by rfl) rfl ?_ ?_
          rotate_left
          ·
           go_simp
           rfl
          refine hK.out _ _ ⟨((cell_far (p := ⟨gb418, _, none⟩) NB375_418.out _).trans (((cell_far (p := ⟨gb418, _, none⟩) NB375_418.out _).trans (((cell_far (p := ⟨gb418, _, none⟩) NB375_418.out _).trans (((cell_far (p := ⟨gb418, _, none⟩) NB375_418.out _).trans (((cell_far (p := ⟨gb418, _, none⟩) NB375_418.out _).trans (((cell_far (p := ⟨gb418, _, none⟩) NB375_418.out _).trans (((cell_far (p := ⟨gb418, _, none⟩) NB375_418.out _).trans (((cell_far (p := ⟨gb418, _, none⟩) NB375_418.out _).trans (hHeld.1)))))))))))))))), ((cell_far (p := ⟨gb418, _, none⟩) NB375_418.out _).trans (((cell_far (p := ⟨gb418, _, none⟩) NB375_418.out _).trans (((cell_far (p := ⟨gb418, _, none⟩) NB375_418.out _).trans (((cell_far (p := ⟨gb418, _, none⟩) NB375_418.out _).trans (((cell_far (p := ⟨gb418, _, none⟩) NB375_418.out _).trans (((cell_far (p := ⟨gb418, _, none⟩) NB375_418.out _).trans (((cell_far (p := ⟨gb418, _, none⟩) NB375_418.out _).trans (((cell_far (p := ⟨gb418, _, none⟩) NB375_418.out _).trans (hHeld.2.1)))))))))))))))), ((cell_far (p := ⟨gb418, _, none⟩) NB375_418.out _).trans (((cell_far (p := ⟨gb418, _, none⟩) NB375_418.out _).trans (((cell_far (p := ⟨gb418, _, none⟩) NB375_418.out _).trans (((cell_far (p := ⟨gb418, _, none⟩) NB375_418.out _).trans (((cell_far (p := ⟨gb418, _, none⟩) NB375_418.out _).trans (((cell_far (p := ⟨gb418, _, none⟩) NB375_418.out _).trans (((cell_far (p := ⟨gb418, _, none⟩) NB375_418.out _).trans (((cell_far (p := ⟨gb418, _, none⟩) NB375_418.out _).trans (hHeld.2.2.1)))))))))))))))), ((cell_far (p := ⟨gb418, _, none⟩) NB375_418.out _).trans (((cell_far (p := ⟨gb418, _, none⟩) NB375_418.out _).trans (((cell_far (p := ⟨gb418, _, none⟩) NB375_418.out _).trans (((cell_far (p := ⟨gb418, _, none⟩) NB375_418.out _).trans (((cell_far (p := ⟨gb418, _, none⟩) NB375_418.out _).trans (((cell_far (p := ⟨gb418, _, none⟩) NB375_418.out _).trans (((cell_far (p := ⟨gb418, _, none⟩) NB375_418.out _).trans (((cell_far (p := ⟨gb418, _, none⟩) NB375_418.out _).trans (hHeld.2.2.2.1)))))))))))))))), ((cell_far (p := ⟨gb418, _, none⟩) NB375_418.out _).trans (((cell_far (p := ⟨gb418, _, none⟩) NB375_418.out _).trans (((cell_far (p := ⟨gb418, _, none⟩) NB375_418.out _).trans (((cell_far (p := ⟨gb418, _, none⟩) NB375_418.out _).trans (((cell_far (p := ⟨gb418, _, none⟩) NB375_418.out _).trans (((cell_far (p := ⟨gb418, _, none⟩) NB375_418.out _).trans (((cell_far (p := ⟨gb418, _, none⟩) NB375_418.out _).trans (((cell_far (p := ⟨gb418, _, none⟩) NB375_418.out _).trans (hHeld.2.2.2.2.1)))))))))))))))), ((cell_far (p := ⟨gb418, _, none⟩) NB375_418.out _).trans (((cell_far (p := ⟨gb418, _, none⟩) NB375_418.out _).trans (((cell_far (p := ⟨gb418, _, none⟩) NB375_418.out _).trans (((cell_far (p := ⟨gb418, _, none⟩) NB375_418.out _).trans (((cell_far (p := ⟨gb418, _, none⟩) NB375_418.out _).trans (((cell_far (p := ⟨gb418, _, none⟩) NB375_418.out _).trans (((cell_far (p := ⟨gb418, _, none⟩) NB375_418.out _).trans (((cell_far (p := ⟨gb418, _, none⟩) NB375_418.out _).trans (hHeld.2.2.2.2.2.1)))))))))))))))), ((cell_far (p := ⟨gb418, _, none⟩) NB375_418.out _).trans (((cell_far (p := ⟨gb418, _, none⟩) NB375_418.out _).trans (((cell_far (p := ⟨gb418, _, none⟩) NB375_418.out _).trans (((cell_far (p := ⟨gb418, _, none⟩) NB375_418.out _).trans (((cell_far (p := ⟨gb418, _, none⟩) NB375_418.out _).trans (((cell_far (p := ⟨gb418, _, none⟩) NB375_418.out _).trans (((cell_far (p := ⟨gb418, _, none⟩) NB375_418.out _).trans (((cell_far (p := ⟨gb418, _, none⟩) NB375_418.out _).trans (hHeld.2.2.2.2.2.2.1)))))))))))))))), ((cell_far (p := ⟨gb418, _, none⟩) NB375_418.out _).trans (((cell_far (p := ⟨gb418, _, none⟩) NB375_418.out _).trans (((cell_far (p := ⟨gb418, _, none⟩) NB375_418.out _).trans (((cell_far (p := ⟨gb418, _, none⟩) NB375_418.out _).trans (((cell_far (p := ⟨gb418, _, none⟩) NB375_418.out _).trans (((cell_far (p := ⟨gb418, _, none⟩) NB375_418.out _).trans (((cell_far (p := ⟨gb418, _, none⟩) NB375_418.out _).trans (((cell_far (p := ⟨gb418, _, none⟩) NB375_418.out _).trans (hHeld.2.2.2.2.2.2.2.1)))))))))))))))), ((cell_far (p := ⟨gb418, _, none⟩) NB392_418.out _).trans (((cell_far (p := ⟨gb418, _, none⟩) NB392_418.out _).trans (((cell_far (p := ⟨gb418, _, none⟩) NB392_418.out _).trans (((cell_far (p := ⟨gb418, _, none⟩) NB392_418.out _).trans (((cell_far (p := ⟨gb418, _, none⟩) NB392_418.out _).trans (((cell_far (p := ⟨gb418, _, none⟩) NB392_418.out _).trans (((cell_far (p := ⟨gb418, _, none⟩) NB392_418.out _).trans (((cell_far (p := ⟨gb418, _, none⟩) NB392_418.out _).trans (hHeld.2.2.2.2.2.2.2.2.1)))))))))))))))), ((cell_far (p := ⟨gb418, _, none⟩) NB392_418.out _).trans (((cell_far (p := ⟨gb418, _, none⟩) NB392_418.out _).trans (((cell_far (p := ⟨gb418, _, none⟩) NB392_418.out _).trans (((cell_far (p := ⟨gb418, _, none⟩) NB392_418.out _).trans (((cell_far (p := ⟨gb418, _, none⟩) NB392_418.out _).trans (((cell_far (p := ⟨gb418, _, none⟩) NB392_418.out _).trans (((cell_far (p := ⟨gb418, _, none⟩) NB392_418.out _).trans (((cell_far (p := ⟨gb418, _, none⟩) NB392_418.out _).trans (hHeld.2.2.2.2.2.2.2.2.2.1)))))))))))))))), ((cell_far (p := ⟨gb418, _, none⟩) NB392_418.out _).trans (((cell_far (p := ⟨gb418, _, none⟩) NB392_418.out _).trans (((cell_far (p := ⟨gb418, _, none⟩) NB392_418.out _).trans (((cell_far (p := ⟨gb418, _, none⟩) NB392_418.out _).trans (((cell_far (p := ⟨gb418, _, none⟩) NB392_418.out _).trans (((cell_far (p := ⟨gb418, _, none⟩) NB392_418.out _).trans (((cell_far (p := ⟨gb418, _, none⟩) NB392_418.out _).trans (((cell_far (p := ⟨gb418, _, none⟩) NB392_418.out _).trans (hHeld.2.2.2.2.2.2.2.2.2.2.1)))))))))))))))), ((cell_far (p := ⟨gb418, _, none⟩) NB392_418.out _).trans (((cell_far (p := ⟨gb418, _, none⟩) NB392_418.out _).trans (((cell_far (p := ⟨gb418, _, none⟩) NB392_418.out _).trans (((cell_far (p := ⟨gb418, _, none⟩) NB392_418.out _).trans (((cell_far (p := ⟨gb418, _, none⟩) NB392_418.out _).trans (((cell_far (p := ⟨gb418, _, none⟩) NB392_418.out _).trans (((cell_far (p := ⟨gb418, _, none⟩) NB392_418.out _).trans (((cell_far (p := ⟨gb418, _, none⟩) NB392_418.out _).trans (hHeld.2.2.2.2.2.2.2.2.2.2.2.1)))))))))))))))), ((cell_far (p := ⟨gb418, _, none⟩) NB392_418.out _).trans (((cell_far (p := ⟨gb418, _, none⟩) NB392_418.out _).trans (((cell_far (p := ⟨gb418, _, none⟩) NB392_418.out _).trans (((cell_far (p := ⟨gb418, _, none⟩) NB392_418.out _).trans (((cell_far (p := ⟨gb418, _, none⟩) NB392_418.out _).trans (((cell_far (p := ⟨gb418, _, none⟩) NB392_418.out _).trans (((cell_far (p := ⟨gb418, _, none⟩) NB392_418.out _).trans (((cell_far (p := ⟨gb418, _, none⟩) NB392_418.out _).trans (hHeld.2.2.2.2.2.2.2.2.2.2.2.2.1)))))))))))))))), ((cell_far (p := ⟨gb418, _, none⟩) NB392_418.out _).trans (((cell_far (p := ⟨gb418, _, none⟩) NB392_418.out _).trans (((cell_far (p := ⟨gb418, _, none⟩) NB392_418.out _).trans (((cell_far (p := ⟨gb418, _, none⟩) NB392_418.out _).trans (((cell_far (p := ⟨gb418, _, none⟩) NB392_418.out _).trans (((cell_far (p := ⟨gb418, _, none⟩) NB392_418.out _).trans (((cell_far (p := ⟨gb418, _, none⟩) NB392_418.out _).trans (((cell_far (p := ⟨gb418, _, none⟩) NB392_418.out _).trans (hHeld.2.2.2.2.2.2.2.2.2.2.2.2.2.1)))))))))))))))), ((cell_far (p := ⟨gb418, _, none⟩) NB392_418.out _).trans (((cell_far (p := ⟨gb418, _, none⟩) NB392_418.out _).trans (((cell_far (p := ⟨gb418, _, none⟩) NB392_418.out _).trans (((cell_far (p := ⟨gb418, _, none⟩) NB392_418.out _).trans (((cell_far (p := ⟨gb418, _, none⟩) NB392_418.out _).trans (((cell_far (p := ⟨gb418, _, none⟩) NB392_418.out _).trans (((cell_far (p := ⟨gb418, _, none⟩) NB392_418.out _).trans (((cell_far (p := ⟨gb418, _, none⟩) NB392_418.out _).trans (hHeld.2.2.2.2.2.2.2.2.2.2.2.2.2.2.1)))))))))))))))), ((cell_far (p := ⟨gb418, _, none⟩) NB392_418.out _).trans (((cell_far (p := ⟨gb418, _, none⟩) NB392_418.out _).trans (((cell_far (p := ⟨gb418, _, none⟩) NB392_418.out _).trans (((cell_far (p := ⟨gb418, _, none⟩) NB392_418.out _).trans (((cell_far (p := ⟨gb418, _, none⟩) NB392_418.out _).trans (((cell_far (p := ⟨gb418, _, none⟩) NB392_418.out _).trans (((cell_far (p := ⟨gb418, _, none⟩) NB392_418.out _).trans (((cell_far (p := ⟨gb418, _, none⟩) NB392_418.out _).trans (hHeld.2.2.2.2.2.2.2.2.2.2.2.2.2.2.2))))))))))))))))⟩ (fun hHeld => ?_)
          clear hK K
          refine pure_ (i := 10) (N := some 9) (v := ?_) (a' := ?_) #[T, T, T, T, T, T, T, T, T, T, T] rfl rfl (any_of HT_.out (by kernel_rfl)) (fun _ _ _ h => h) (Or.inl ⟨by rfl, ?_⟩) ?_ ?_
          rotate_left
          ·
           intro w'
           (try simp only [add_plain] at s0 s1 s2 s3 s4 s5 s6 s7 s8 s9 s10 s11 s12 s13 s14 s15)
           go_simp
           with_reducible rfl
          rotate_left
          ·
           simp only [Act.put, List.setIfInBounds_toArray, List.set_cons_zero, List.set_cons_succ, i64_w, i32_w]
           rfl
          refine done_ (done_of HT_.out (by kernel_rfl)) ?_
          have hnb74 := NB375_353.out
          have hnc74 := NB353_375.out
          have hnb75 := NB375_418.out
          have hnc75 := NB418_375.out
          have hcz76_0 : w65.cell? ⟨gb375, 0, none⟩ = some (.int .u32 x376000_14) := (blk_cell BK375.out 0).trans rfl
          have hcz76_1 : w65.cell? ⟨gb375, 1, none⟩ = some (.int .u32 x376001_14) := (blk_cell BK375.out 1).trans rfl
          have hcz76_2 : w65.cell? ⟨gb375, 2, none⟩ = some (.int .u32 x376002_14) := (blk_cell BK375.out 2).trans rfl
          have hcz76_3 : w65.cell? ⟨gb375, 3, none⟩ = some (.int .u32 x376003_14) := (blk_cell BK375.out 3).trans rfl
          have hcz76_4 : w65.cell? ⟨gb375, 4, none⟩ = some (.int .u32 x376004_14) := (blk_cell BK375.out 4).trans rfl
          have hcz76_5 : w65.cell? ⟨gb375, 5, none⟩ = some (.int .u32 x376005_14) := (blk_cell BK375.out 5).trans rfl
          have hcz76_6 : w65.cell? ⟨gb375, 6, none⟩ = some (.int .u32 x376006_14) := (blk_cell BK375.out 6).trans rfl
          have hcz76_7 : w65.cell? ⟨gb375, 7, none⟩ = some (.int .u32 x376007_14) := (blk_cell BK375.out 7).trans rfl
          have hfz76_0 := blk_frozen BK375.out 0
          have hfz76_1 := blk_frozen BK375.out 1
          have hfz76_2 := blk_frozen BK375.out 2
          have hfz76_3 := blk_frozen BK375.out 3
          have hfz76_4 := blk_frozen BK375.out 4
          have hfz76_5 := blk_frozen BK375.out 5
          have hfz76_6 := blk_frozen BK375.out 6
          have hfz76_7 := blk_frozen BK375.out 7
          have hnb77 := NB392_418.out
          have hnc77 := NB418_392.out
          have hcz78_0 : w65.cell? ⟨gb392, 0, none⟩ = some (.int .u32 t384) := (blk_cell BK392.out 0).trans rfl
          have hcz78_1 : w65.cell? ⟨gb392, 1, none⟩ = some (.int .u32 t385) := (blk_cell BK392.out 1).trans rfl
          have hcz78_2 : w65.cell? ⟨gb392, 2, none⟩ = some (.int .u32 t386) := (blk_cell BK392.out 2).trans rfl
          have hcz78_3 : w65.cell? ⟨gb392, 3, none⟩ = some (.int .u32 t387) := (blk_cell BK392.out 3).trans rfl
          have hcz78_4 : w65.cell? ⟨gb392, 4, none⟩ = some (.int .u32 t388) := (blk_cell BK392.out 4).trans rfl
          have hcz78_5 : w65.cell? ⟨gb392, 5, none⟩ = some (.int .u32 t389) := (blk_cell BK392.out 5).trans rfl
          have hcz78_6 : w65.cell? ⟨gb392, 6, none⟩ = some (.int .u32 t390) := (blk_cell BK392.out 6).trans rfl
          have hcz78_7 : w65.cell? ⟨gb392, 7, none⟩ = some (.int .u32 t391) := (blk_cell BK392.out 7).trans rfl
          have hfz78_0 := blk_frozen BK392.out 0
          have hfz78_1 := blk_frozen BK392.out 1
          have hfz78_2 := blk_frozen BK392.out 2
          have hfz78_3 := blk_frozen BK392.out 3
          have hfz78_4 := blk_frozen BK392.out 4
          have hfz78_5 := blk_frozen BK392.out 5
          have hfz78_6 := blk_frozen BK392.out 6
          have hfz78_7 := blk_frozen BK392.out 7
          try go_wp2_with (first | ((with_reducible refine gate_callee (f := 16) rfl ?_); refine goesL_ (some 74) rfl rfl Try.func16 (by kernel_rfl) rfl #[.agg #[.int .u32 x376000_14, .int .u32 x376001_14, .int .u32 x376002_14, .int .u32 x376003_14, .int .u32 x376004_14, .int .u32 x376005_14, .int .u32 x376006_14, .int .u32 x376007_14], .agg #[.int .u32 t384, .int .u32 t385, .int .u32 t386, .int .u32 t387, .int .u32 t388, .int .u32 t389, .int .u32 t390, .int .u32 t391]] rfl (by (try simp only [List.map_toArray, List.map_cons, List.map_nil]); first | done | rfl | (simp only [List.length_drop, List.length_take]; rfl)) ?_; (with_reducible refine (offertoryref09_Add.calls x376000_14 x376001_14 x376002_14 x376003_14 x376004_14 x376005_14 x376006_14 x376007_14 t384 t385 t386 t387 t388 t389 t390 t391 t419 t420 t421 t422 t423 t424 t425 t426 _ A43.out).mono ?_); rintro e w79 ⟨rfl, hb⟩; refine ⟨_, rfl, ?_⟩; have n0_ := Aside0.mk (blk_below (g := gb353) (o := .cells #[.slice A0_0 l0_0.length c0_0, .int .i64 a0_1, .int .u64 a0_2, .int .u64 a0_3, .int .u64 a0_4, .int .u64 a0_5, .bool true] 36 (0, 0)) (by (repeat (first | (with_reducible first | refine blk_drewN ?_ _ | refine blk_drew ?_ | refine blk_alloc ?_ _) | refine blk_far ?_ NB353_418.out _)); (with_reducible repeat (first | refine blk_drewN ?_ _ | refine blk_drew ?_ | refine blk_alloc ?_ _)); exact BK353.out) hb); have n1_ := Aside0.mk (blk_below (g := gb365) (o := .cells #[.int .u32 t357, .int .u32 t358, .int .u32 t359, .int .u32 t360, .int .u32 t361, .int .u32 t362, .int .u32 t363, .int .u32 t364] 41 (0, 0)) (by (repeat (first | (with_reducible first | refine blk_drewN ?_ _ | refine blk_drew ?_ | refine blk_alloc ?_ _) | refine blk_far ?_ NB365_418.out _)); (with_reducible repeat (first | refine blk_drewN ?_ _ | refine blk_drew ?_ | refine blk_alloc ?_ _)); exact BK365.out) hb); have n2_ := Aside0.mk (blk_below (g := gb375) (o := .cells #[.int .u32 x376000_14, .int .u32 x376001_14, .int .u32 x376002_14, .int .u32 x376003_14, .int .u32 x376004_14, .int .u32 x376005_14, .int .u32 x376006_14, .int .u32 x376007_14] 41 (0, 0)) (by (repeat (first | (with_reducible first | refine blk_drewN ?_ _ | refine blk_drew ?_ | refine blk_alloc ?_ _) | refine blk_far ?_ NB375_418.out _)); (with_reducible repeat (first | refine blk_drewN ?_ _ | refine blk_drew ?_ | refine blk_alloc ?_ _)); exact BK375.out) hb); have n3_ := Aside0.mk (blk_below (g := gb392) (o := .cells #[.int .u32 t384, .int .u32 t385, .int .u32 t386, .int .u32 t387, .int .u32 t388, .int .u32 t389, .int .u32 t390, .int .u32 t391] 41 (0, 0)) (by (repeat (first | (with_reducible first | refine blk_drewN ?_ _ | refine blk_drew ?_ | refine blk_alloc ?_ _) | refine blk_far ?_ NB392_418.out _)); (with_reducible repeat (first | refine blk_drewN ?_ _ | refine blk_drew ?_ | refine blk_alloc ?_ _)); exact BK392.out) hb); have n4_ := Aside0.mk (blk_below (g := gb418) (o := .cells #[.int .u32 t409, .int .u32 t410, .int .u32 t411, .int .u32 t412, .int .u32 t413, .int .u32 t414, .int .u32 t415, .int .u32 t416] 41 (0, 0)) (by (with_reducible repeat (first | refine blk_drewN ?_ _ | refine blk_drew ?_ | refine blk_alloc ?_ _)); refine blk_put (cs := #[.int .u32 t409, .int .u32 t410, .int .u32 t411, .int .u32 t412, .int .u32 t413, .int .u32 t414, .int .u32 t415, .int .u32 0]) ?_ 7 _ rfl; (with_reducible repeat (first | refine blk_drewN ?_ _ | refine blk_drew ?_ | refine blk_alloc ?_ _)); refine blk_put (cs := #[.int .u32 t409, .int .u32 t410, .int .u32 t411, .int .u32 t412, .int .u32 t413, .int .u32 t414, .int .u32 0, .int .u32 0]) ?_ 6 _ rfl; (with_reducible repeat (first | refine blk_drewN ?_ _ | refine blk_drew ?_ | refine blk_alloc ?_ _)); refine blk_put (cs := #[.int .u32 t409, .int .u32 t410, .int .u32 t411, .int .u32 t412, .int .u32 t413, .int .u32 0, .int .u32 0, .int .u32 0]) ?_ 5 _ rfl; (with_reducible repeat (first | refine blk_drewN ?_ _ | refine blk_drew ?_ | refine blk_alloc ?_ _)); refine blk_put (cs := #[.int .u32 t409, .int .u32 t410, .int .u32 t411, .int .u32 t412, .int .u32 0, .int .u32 0, .int .u32 0, .int .u32 0]) ?_ 4 _ rfl; (with_reducible repeat (first | refine blk_drewN ?_ _ | refine blk_drew ?_ | refine blk_alloc ?_ _)); refine blk_put (cs := #[.int .u32 t409, .int .u32 t410, .int .u32 t411, .int .u32 0, .int .u32 0, .int .u32 0, .int .u32 0, .int .u32 0]) ?_ 3 _ rfl; (with_reducible repeat (first | refine blk_drewN ?_ _ | refine blk_drew ?_ | refine blk_alloc ?_ _)); refine blk_put (cs := #[.int .u32 t409, .int .u32 t410, .int .u32 0, .int .u32 0, .int .u32 0, .int .u32 0, .int .u32 0, .int .u32 0]) ?_ 2 _ rfl; (with_reducible repeat (first | refine blk_drewN ?_ _ | refine blk_drew ?_ | refine blk_alloc ?_ _)); refine blk_put (cs := #[.int .u32 t409, .int .u32 0, .int .u32 0, .int .u32 0, .int .u32 0, .int .u32 0, .int .u32 0, .int .u32 0]) ?_ 1 _ rfl; (with_reducible repeat (first | refine blk_drewN ?_ _ | refine blk_drew ?_ | refine blk_alloc ?_ _)); refine blk_put (cs := #[.int .u32 0, .int .u32 0, .int .u32 0, .int .u32 0, .int .u32 0, .int .u32 0, .int .u32 0, .int .u32 0]) ?_ 0 _ rfl; (with_reducible repeat (first | refine blk_drewN ?_ _ | refine blk_drew ?_ | refine blk_alloc ?_ _)); exact BK418.out) hb); have n5_ := Aside0.mk (below_step (by repeat (first | (with_reducible first | exact HB.out | apply below_alloc | apply pw_below_drewN | apply below_drew1 | refine below_set ?_ GE353.out | refine below_set ?_ GE365.out | refine below_set ?_ GE375.out | refine below_set ?_ GE392.out | refine below_set ?_ GE418.out) | exact HB.out)) hb); clear BK353; clear BK365; clear BK375; clear BK392; clear BK418; clear HB; have BK353 := n0_; have BK365 := n1_; have BK375 := n2_; have BK392 := n3_; have BK418 := n4_; have HB := n5_; clear n0_ n1_ n2_ n3_ n4_ n5_; (try clear hb); (try clear hb2); (try clear hk); (try clear hi)) | ((with_reducible refine gate_callee (f := 15) rfl ?_); refine goesL_ (some 75) rfl rfl Try.func15 (by kernel_rfl) rfl #[.agg #[.int .u32 t419, .int .u32 t420, .int .u32 t421, .int .u32 t422, .int .u32 t423, .int .u32 t424, .int .u32 t425, .int .u32 t426]] rfl (by (try simp only [List.map_toArray, List.map_cons, List.map_nil]); first | done | rfl | (simp only [List.length_drop, List.length_take]; rfl)) ?_; (with_reducible refine (offertoryref09_Signed.calls t419 t420 t421 t422 t423 t424 t425 t426 t427 t428 t429 t430 t431 t432 t433 t434 t435 _ A44.out).mono ?_); rintro e w80 ⟨rfl, hb⟩; refine ⟨_, rfl, ?_⟩; have n0_ := law4B.keepB BK353 hb; have n1_ := law4B.keepB BK365 hb; have n2_ := law4B.keepB BK375 hb; have n3_ := law4B.keepB BK392 hb; have n4_ := law4B.keepB BK418 hb; have n5_ := Aside0.mk (below_step (by repeat (first | (with_reducible first | exact HB.out | apply below_alloc | apply pw_below_drewN | apply below_drew1 | refine below_set ?_ GE353.out | refine below_set ?_ GE365.out | refine below_set ?_ GE375.out | refine below_set ?_ GE392.out | refine below_set ?_ GE418.out) | exact HB.out)) hb); clear BK353; clear BK365; clear BK375; clear BK392; clear BK418; clear HB; have BK353 := n0_; have BK365 := n1_; have BK375 := n2_; have BK392 := n3_; have BK418 := n4_; have HB := n5_; clear n0_ n1_ n2_ n3_ n4_ n5_; (try clear hb); (try clear hb2); (try clear hk); (try clear hi)) | ((with_reducible refine gate_dst (N := 10) rfl ?_); refine box_event ?hg (N := 10) ?hd (cs := #[.int .u32 0, .int .u32 0, .int .u32 0, .int .u32 0, .int .u32 0, .int .u32 0, .int .u32 0, .int .u32 0]) (t := 41) ?hr ?_; (case hd => rfl); (case hg => rfl); (case hr => first | (go_simp; done) | (go_simp; rfl)); intro gb436 hg w81 hbox hb; have n0_ := law4B.keepB BK353 hb; have n1_ := law4B.keepB BK365 hb; have n2_ := law4B.keepB BK375 hb; have n3_ := law4B.keepB BK392 hb; have n4_ := law4B.keepB BK418 hb; have n5_ := Aside0.mk (below_step (by repeat (first | (with_reducible first | exact HB.out | apply below_alloc | apply pw_below_drewN | apply below_drew1 | refine below_set ?_ GE353.out | refine below_set ?_ GE365.out | refine below_set ?_ GE375.out | refine below_set ?_ GE392.out | refine below_set ?_ GE418.out) | exact HB.out)) hb); have n6_ := Aside0.mk (hbox); have n7_ := Aside0.mk ((by rw [hg]; exact (below_size (by repeat (first | (with_reducible first | exact HB.out | apply below_alloc | apply pw_below_drewN | apply below_drew1 | refine below_set ?_ GE353.out | refine below_set ?_ GE365.out | refine below_set ?_ GE375.out | refine below_set ?_ GE392.out | refine below_set ?_ GE418.out) | exact HB.out))) : w.heap.size ≤ gb436)); have n8_ := Aside0.mk ((by rw [hg]; exact (below_size (by repeat (first | (with_reducible first | exact HB.out | apply below_alloc | apply pw_below_drewN | apply below_drew1 | refine below_set ?_ GE353.out | refine below_set ?_ GE365.out | refine below_set ?_ GE375.out | refine below_set ?_ GE392.out | refine below_set ?_ GE418.out) | exact HB.out))) : w.heap.size ≤ gb436)); have n9_ := law4B.neL BK353 hg; have n10_ := law4B.neG BK353 hg; have n11_ := law4B.neL BK365 hg; have n12_ := law4B.neG BK365 hg; have n13_ := law4B.neL BK375 hg; have n14_ := law4B.neG BK375 hg; have n15_ := law4B.neL BK392 hg; have n16_ := law4B.neG BK392 hg; have n17_ := law4B.neL BK418 hg; have n18_ := law4B.neG BK418 hg; clear BK353; clear BK365; clear BK375; clear BK392; clear BK418; clear HB; have BK353 := n0_; have BK365 := n1_; have BK375 := n2_; have BK392 := n3_; have BK418 := n4_; have HB := n5_; have BK436 := n6_; have GW436 := n7_; have GE436 := n8_; have NB353_436 := n9_; have NB436_353 := n10_; have NB365_436 := n11_; have NB436_365 := n12_; have NB375_436 := n13_; have NB436_375 := n14_; have NB392_436 := n15_; have NB436_392 := n16_; have NB418_436 := n17_; have NB436_418 := n18_; clear n0_ n1_ n2_ n3_ n4_ n5_ n6_ n7_ n8_ n9_ n10_ n11_ n12_ n13_ n14_ n15_ n16_ n17_ n18_; clear hb hbox hg; have hnb82 := NB436_353.out; have hnc82 := NB353_436.out; have hnb83 := NB436_365.out; have hnc83 := NB365_436.out; have hnb84 := NB436_375.out; have hnc84 := NB375_436.out; have hnb85 := NB436_392.out; have hnc85 := NB392_436.out; have hnb86 := NB436_418.out; have hnc86 := NB418_436.out; have hcz87_0 : w81.cell? ⟨gb436, 0, none⟩ = some (.int .u32 0) := (blk_cell BK436.out 0).trans rfl; have hcz87_1 : w81.cell? ⟨gb436, 1, none⟩ = some (.int .u32 0) := (blk_cell BK436.out 1).trans rfl; have hcz87_2 : w81.cell? ⟨gb436, 2, none⟩ = some (.int .u32 0) := (blk_cell BK436.out 2).trans rfl; have hcz87_3 : w81.cell? ⟨gb436, 3, none⟩ = some (.int .u32 0) := (blk_cell BK436.out 3).trans rfl; have hcz87_4 : w81.cell? ⟨gb436, 4, none⟩ = some (.int .u32 0) := (blk_cell BK436.out 4).trans rfl; have hcz87_5 : w81.cell? ⟨gb436, 5, none⟩ = some (.int .u32 0) := (blk_cell BK436.out 5).trans rfl; have hcz87_6 : w81.cell? ⟨gb436, 6, none⟩ = some (.int .u32 0) := (blk_cell BK436.out 6).trans rfl; have hcz87_7 : w81.cell? ⟨gb436, 7, none⟩ = some (.int .u32 0) := (blk_cell BK436.out 7).trans rfl; have hfz87_0 := blk_frozen BK436.out 0; have hfz87_1 := blk_frozen BK436.out 1; have hfz87_2 := blk_frozen BK436.out 2; have hfz87_3 := blk_frozen BK436.out 3; have hfz87_4 := blk_frozen BK436.out 4; have hfz87_5 := blk_frozen BK436.out 5; have hfz87_6 := blk_frozen BK436.out 6; have hfz87_7 := blk_frozen BK436.out 7) | ((with_reducible refine gate_callee (f := 8) rfl ?_); refine goesL_ (some 78) rfl rfl Try.func8 (by kernel_rfl) rfl #[] rfl (by (try simp only [List.map_toArray, List.map_cons, List.map_nil]); first | done | rfl | (simp only [List.length_drop, List.length_take]; rfl)) ?_; (with_reducible refine (offertorylaw28_awake.calls kj14  true _ A45.out).mono ?_); rintro e w88 ⟨rfl, hb⟩; refine ⟨_, rfl, ?_⟩; have n0_ := Aside0.mk (blk_below (g := gb353) (o := .cells #[.slice A0_0 l0_0.length c0_0, .int .i64 a0_1, .int .u64 a0_2, .int .u64 a0_3, .int .u64 a0_4, .int .u64 a0_5, .bool true] 36 (0, 0)) (by (repeat (first | (with_reducible first | refine blk_drewN ?_ _ | refine blk_drew ?_ | refine blk_alloc ?_ _) | refine blk_far ?_ NB353_436.out _)); (with_reducible repeat (first | refine blk_drewN ?_ _ | refine blk_drew ?_ | refine blk_alloc ?_ _)); exact BK353.out) hb); have n1_ := Aside0.mk (blk_below (g := gb365) (o := .cells #[.int .u32 t357, .int .u32 t358, .int .u32 t359, .int .u32 t360, .int .u32 t361, .int .u32 t362, .int .u32 t363, .int .u32 t364] 41 (0, 0)) (by (repeat (first | (with_reducible first | refine blk_drewN ?_ _ | refine blk_drew ?_ | refine blk_alloc ?_ _) | refine blk_far ?_ NB365_436.out _)); (with_reducible repeat (first | refine blk_drewN ?_ _ | refine blk_drew ?_ | refine blk_alloc ?_ _)); exact BK365.out) hb); have n2_ := Aside0.mk (blk_below (g := gb375) (o := .cells #[.int .u32 x376000_14, .int .u32 x376001_14, .int .u32 x376002_14, .int .u32 x376003_14, .int .u32 x376004_14, .int .u32 x376005_14, .int .u32 x376006_14, .int .u32 x376007_14] 41 (0, 0)) (by (repeat (first | (with_reducible first | refine blk_drewN ?_ _ | refine blk_drew ?_ | refine blk_alloc ?_ _) | refine blk_far ?_ NB375_436.out _)); (with_reducible repeat (first | refine blk_drewN ?_ _ | refine blk_drew ?_ | refine blk_alloc ?_ _)); exact BK375.out) hb); have n3_ := Aside0.mk (blk_below (g := gb392) (o := .cells #[.int .u32 t384, .int .u32 t385, .int .u32 t386, .int .u32 t387, .int .u32 t388, .int .u32 t389, .int .u32 t390, .int .u32 t391] 41 (0, 0)) (by (repeat (first | (with_reducible first | refine blk_drewN ?_ _ | refine blk_drew ?_ | refine blk_alloc ?_ _) | refine blk_far ?_ NB392_436.out _)); (with_reducible repeat (first | refine blk_drewN ?_ _ | refine blk_drew ?_ | refine blk_alloc ?_ _)); exact BK392.out) hb); have n4_ := Aside0.mk (blk_below (g := gb418) (o := .cells #[.int .u32 t409, .int .u32 t410, .int .u32 t411, .int .u32 t412, .int .u32 t413, .int .u32 t414, .int .u32 t415, .int .u32 t416] 41 (0, 0)) (by (repeat (first | (with_reducible first | refine blk_drewN ?_ _ | refine blk_drew ?_ | refine blk_alloc ?_ _) | refine blk_far ?_ NB418_436.out _)); (with_reducible repeat (first | refine blk_drewN ?_ _ | refine blk_drew ?_ | refine blk_alloc ?_ _)); exact BK418.out) hb); have n5_ := Aside0.mk (blk_below (g := gb436) (o := .cells #[.int .u32 t427, .int .u32 t428, .int .u32 t429, .int .u32 t430, .int .u32 t431, .int .u32 t432, .int .u32 t433, .int .u32 t434] 41 (0, 0)) (by (with_reducible repeat (first | refine blk_drewN ?_ _ | refine blk_drew ?_ | refine blk_alloc ?_ _)); refine blk_put (cs := #[.int .u32 t427, .int .u32 t428, .int .u32 t429, .int .u32 t430, .int .u32 t431, .int .u32 t432, .int .u32 t433, .int .u32 0]) ?_ 7 _ rfl; (with_reducible repeat (first | refine blk_drewN ?_ _ | refine blk_drew ?_ | refine blk_alloc ?_ _)); refine blk_put (cs := #[.int .u32 t427, .int .u32 t428, .int .u32 t429, .int .u32 t430, .int .u32 t431, .int .u32 t432, .int .u32 0, .int .u32 0]) ?_ 6 _ rfl; (with_reducible repeat (first | refine blk_drewN ?_ _ | refine blk_drew ?_ | refine blk_alloc ?_ _)); refine blk_put (cs := #[.int .u32 t427, .int .u32 t428, .int .u32 t429, .int .u32 t430, .int .u32 t431, .int .u32 0, .int .u32 0, .int .u32 0]) ?_ 5 _ rfl; (with_reducible repeat (first | refine blk_drewN ?_ _ | refine blk_drew ?_ | refine blk_alloc ?_ _)); refine blk_put (cs := #[.int .u32 t427, .int .u32 t428, .int .u32 t429, .int .u32 t430, .int .u32 0, .int .u32 0, .int .u32 0, .int .u32 0]) ?_ 4 _ rfl; (with_reducible repeat (first | refine blk_drewN ?_ _ | refine blk_drew ?_ | refine blk_alloc ?_ _)); refine blk_put (cs := #[.int .u32 t427, .int .u32 t428, .int .u32 t429, .int .u32 0, .int .u32 0, .int .u32 0, .int .u32 0, .int .u32 0]) ?_ 3 _ rfl; (with_reducible repeat (first | refine blk_drewN ?_ _ | refine blk_drew ?_ | refine blk_alloc ?_ _)); refine blk_put (cs := #[.int .u32 t427, .int .u32 t428, .int .u32 0, .int .u32 0, .int .u32 0, .int .u32 0, .int .u32 0, .int .u32 0]) ?_ 2 _ rfl; (with_reducible repeat (first | refine blk_drewN ?_ _ | refine blk_drew ?_ | refine blk_alloc ?_ _)); refine blk_put (cs := #[.int .u32 t427, .int .u32 0, .int .u32 0, .int .u32 0, .int .u32 0, .int .u32 0, .int .u32 0, .int .u32 0]) ?_ 1 _ rfl; (with_reducible repeat (first | refine blk_drewN ?_ _ | refine blk_drew ?_ | refine blk_alloc ?_ _)); refine blk_put (cs := #[.int .u32 0, .int .u32 0, .int .u32 0, .int .u32 0, .int .u32 0, .int .u32 0, .int .u32 0, .int .u32 0]) ?_ 0 _ rfl; (with_reducible repeat (first | refine blk_drewN ?_ _ | refine blk_drew ?_ | refine blk_alloc ?_ _)); exact BK436.out) hb); have n6_ := Aside0.mk (below_step (by repeat (first | (with_reducible first | exact HB.out | apply below_alloc | apply pw_below_drewN | apply below_drew1 | refine below_set ?_ GE353.out | refine below_set ?_ GE365.out | refine below_set ?_ GE375.out | refine below_set ?_ GE392.out | refine below_set ?_ GE418.out | refine below_set ?_ GE436.out) | exact HB.out)) hb); clear BK353; clear BK365; clear BK375; clear BK392; clear BK418; clear BK436; clear HB; have BK353 := n0_; have BK365 := n1_; have BK375 := n2_; have BK392 := n3_; have BK418 := n4_; have BK436 := n5_; have HB := n6_; clear n0_ n1_ n2_ n3_ n4_ n5_ n6_; (try clear hb); (try clear hb2); (try clear hk); (try clear hi); have hnb89 := NB353_418.out; have hnc89 := NB418_353.out; have hcz90_0 : w88.cell? ⟨gb353, 0, none⟩ = some (.slice A0_0 l0_0.length c0_0) := (blk_cell BK353.out 0).trans rfl; have hcz90_1 : w88.cell? ⟨gb353, 1, none⟩ = some (.int .i64 a0_1) := (blk_cell BK353.out 1).trans rfl; have hcz90_2 : w88.cell? ⟨gb353, 2, none⟩ = some (.int .u64 a0_2) := (blk_cell BK353.out 2).trans rfl; have hcz90_3 : w88.cell? ⟨gb353, 3, none⟩ = some (.int .u64 a0_3) := (blk_cell BK353.out 3).trans rfl; have hcz90_4 : w88.cell? ⟨gb353, 4, none⟩ = some (.int .u64 a0_4) := (blk_cell BK353.out 4).trans rfl; have hcz90_5 : w88.cell? ⟨gb353, 5, none⟩ = some (.int .u64 a0_5) := (blk_cell BK353.out 5).trans rfl; have hcz90_6 : w88.cell? ⟨gb353, 6, none⟩ = some (.bool true) := (blk_cell BK353.out 6).trans rfl; have hfz90_0 := blk_frozen BK353.out 0; have hfz90_1 := blk_frozen BK353.out 1; have hfz90_2 := blk_frozen BK353.out 2; have hfz90_3 := blk_frozen BK353.out 3; have hfz90_4 := blk_frozen BK353.out 4; have hfz90_5 := blk_frozen BK353.out 5; have hfz90_6 := blk_frozen BK353.out 6))
          go_ret
          exact ⟨by first | rfl | (simp [errW_none, errW_some] <;> rfl) | (simp [*, errW_none, errW_some] <;> rfl), by repeat (first | (with_reducible first | exact HB.out | apply below_alloc | apply pw_below_drewN | apply below_drew1 | refine below_set ?_ GE353.out | refine below_set ?_ GE365.out | refine below_set ?_ GE375.out | refine below_set ?_ GE392.out | refine below_set ?_ GE418.out | refine below_set ?_ GE436.out) | exact HB.out)⟩
         ·
          replace c49 := Bool.eq_false_iff.mpr c49
          subst c49
          have H1 : (if t417 = true then (none) else (some true)) = some r := by rw [if_neg (show ¬ (false = true) by decide)] at H; exact H
          clear H
          have H := H1
          clear H1
          by_cases c91 : t417 = true
          ·
           subst c91
           have H1 : (none) = some r := by rw [if_pos rfl] at H; exact H
           clear H
           have H := H1
           clear H1
           exact absurd H (by simp)
          ·
           replace c91 := Bool.eq_false_iff.mpr c91
           subst c91
           have H1 : (some true) = some r := by rw [if_neg (show ¬ (false = true) by decide)] at H; exact H
           clear H
           have H := H1
           clear H1
           obtain rfl := Option.some.inj H
           have hnb92 := NB365_353.out
           have hnc92 := NB353_365.out
           have hnb93 := NB365_375.out
           have hnc93 := NB375_365.out
           have hcz94_0 : wc.cell? ⟨gb365, 0, none⟩ = some (.int .u32 t357) := (blk_cell BK365.out 0).trans rfl
           have hcz94_1 : wc.cell? ⟨gb365, 1, none⟩ = some (.int .u32 t358) := (blk_cell BK365.out 1).trans rfl
           have hcz94_2 : wc.cell? ⟨gb365, 2, none⟩ = some (.int .u32 t359) := (blk_cell BK365.out 2).trans rfl
           have hcz94_3 : wc.cell? ⟨gb365, 3, none⟩ = some (.int .u32 t360) := (blk_cell BK365.out 3).trans rfl
           have hcz94_4 : wc.cell? ⟨gb365, 4, none⟩ = some (.int .u32 t361) := (blk_cell BK365.out 4).trans rfl
           have hcz94_5 : wc.cell? ⟨gb365, 5, none⟩ = some (.int .u32 t362) := (blk_cell BK365.out 5).trans rfl
           have hcz94_6 : wc.cell? ⟨gb365, 6, none⟩ = some (.int .u32 t363) := (blk_cell BK365.out 6).trans rfl
           have hcz94_7 : wc.cell? ⟨gb365, 7, none⟩ = some (.int .u32 t364) := (blk_cell BK365.out 7).trans rfl
           have hfz94_0 := blk_frozen BK365.out 0
           have hfz94_1 := blk_frozen BK365.out 1
           have hfz94_2 := blk_frozen BK365.out 2
           have hfz94_3 := blk_frozen BK365.out 3
           have hfz94_4 := blk_frozen BK365.out 4
           have hfz94_5 := blk_frozen BK365.out 5
           have hfz94_6 := blk_frozen BK365.out 6
           have hfz94_7 := blk_frozen BK365.out 7
           try go_wp2_with (first | ((with_reducible refine gate_callee (f := 14) rfl ?_); refine goesL_ (some 62) rfl rfl Try.func14 (by kernel_rfl) rfl #[.agg #[.int .u32 t357, .int .u32 t358, .int .u32 t359, .int .u32 t360, .int .u32 t361, .int .u32 t362, .int .u32 t363, .int .u32 t364], .int .i64 63] rfl (by (try simp only [List.map_toArray, List.map_cons, List.map_nil]); first | done | rfl | (simp only [List.length_drop, List.length_take]; rfl)) ?_; (with_reducible refine (offertoryref09_Shift.calls kj14 t357 t358 t359 t360 t361 t362 t363 t364 63 t384 t385 t386 t387 t388 t389 t390 t391 _ A39.out).mono ?_); rintro e w95 ⟨rfl, hb⟩; refine ⟨_, rfl, ?_⟩; have n0_ := law4B.keepB BK353 hb; have n1_ := law4B.keepB BK365 hb; have n2_ := law4B.keepB BK375 hb; have n3_ := Aside0.mk (below_step (by repeat (first | (with_reducible first | exact HB.out | apply below_alloc | apply pw_below_drewN | apply below_drew1 | refine below_set ?_ GE353.out | refine below_set ?_ GE365.out | refine below_set ?_ GE375.out) | exact HB.out)) hb); clear BK353; clear BK365; clear BK375; clear HB; have BK353 := n0_; have BK365 := n1_; have BK375 := n2_; have HB := n3_; clear n0_ n1_ n2_ n3_; (try clear hb); (try clear hb2); (try clear hk); (try clear hi)) | ((with_reducible refine gate_dst (N := 7) rfl ?_); refine box_event ?hg (N := 7) ?hd (cs := #[.int .u32 0, .int .u32 0, .int .u32 0, .int .u32 0, .int .u32 0, .int .u32 0, .int .u32 0, .int .u32 0]) (t := 41) ?hr ?_; (case hd => rfl); (case hg => rfl); (case hr => first | (go_simp; done) | (go_simp; rfl)); intro gb392 hg w96 hbox hb; have n0_ := law4B.keepB BK353 hb; have n1_ := law4B.keepB BK365 hb; have n2_ := law4B.keepB BK375 hb; have n3_ := Aside0.mk (below_step (by repeat (first | (with_reducible first | exact HB.out | apply below_alloc | apply pw_below_drewN | apply below_drew1 | refine below_set ?_ GE353.out | refine below_set ?_ GE365.out | refine below_set ?_ GE375.out) | exact HB.out)) hb); have n4_ := Aside0.mk (hbox); have n5_ := Aside0.mk ((by rw [hg]; exact (below_size (by repeat (first | (with_reducible first | exact HB.out | apply below_alloc | apply pw_below_drewN | apply below_drew1 | refine below_set ?_ GE353.out | refine below_set ?_ GE365.out | refine below_set ?_ GE375.out) | exact HB.out))) : w.heap.size ≤ gb392)); have n6_ := Aside0.mk ((by rw [hg]; exact (below_size (by repeat (first | (with_reducible first | exact HB.out | apply below_alloc | apply pw_below_drewN | apply below_drew1 | refine below_set ?_ GE353.out | refine below_set ?_ GE365.out | refine below_set ?_ GE375.out) | exact HB.out))) : w.heap.size ≤ gb392)); have n7_ := law4B.neL BK353 hg; have n8_ := law4B.neG BK353 hg; have n9_ := law4B.neL BK365 hg; have n10_ := law4B.neG BK365 hg; have n11_ := law4B.neL BK375 hg; have n12_ := law4B.neG BK375 hg; clear BK353; clear BK365; clear BK375; clear HB; have BK353 := n0_; have BK365 := n1_; have BK375 := n2_; have HB := n3_; have BK392 := n4_; have GW392 := n5_; have GE392 := n6_; have NB353_392 := n7_; have NB392_353 := n8_; have NB365_392 := n9_; have NB392_365 := n10_; have NB375_392 := n11_; have NB392_375 := n12_; clear n0_ n1_ n2_ n3_ n4_ n5_ n6_ n7_ n8_ n9_ n10_ n11_ n12_; clear hb hbox hg; have hnb97 := NB392_353.out; have hnc97 := NB353_392.out; have hnb98 := NB392_365.out; have hnc98 := NB365_392.out; have hnb99 := NB392_375.out; have hnc99 := NB375_392.out; have hcz100_0 : w96.cell? ⟨gb392, 0, none⟩ = some (.int .u32 0) := (blk_cell BK392.out 0).trans rfl; have hcz100_1 : w96.cell? ⟨gb392, 1, none⟩ = some (.int .u32 0) := (blk_cell BK392.out 1).trans rfl; have hcz100_2 : w96.cell? ⟨gb392, 2, none⟩ = some (.int .u32 0) := (blk_cell BK392.out 2).trans rfl; have hcz100_3 : w96.cell? ⟨gb392, 3, none⟩ = some (.int .u32 0) := (blk_cell BK392.out 3).trans rfl; have hcz100_4 : w96.cell? ⟨gb392, 4, none⟩ = some (.int .u32 0) := (blk_cell BK392.out 4).trans rfl; have hcz100_5 : w96.cell? ⟨gb392, 5, none⟩ = some (.int .u32 0) := (blk_cell BK392.out 5).trans rfl; have hcz100_6 : w96.cell? ⟨gb392, 6, none⟩ = some (.int .u32 0) := (blk_cell BK392.out 6).trans rfl; have hcz100_7 : w96.cell? ⟨gb392, 7, none⟩ = some (.int .u32 0) := (blk_cell BK392.out 7).trans rfl; have hfz100_0 := blk_frozen BK392.out 0; have hfz100_1 := blk_frozen BK392.out 1; have hfz100_2 := blk_frozen BK392.out 2; have hfz100_3 := blk_frozen BK392.out 3; have hfz100_4 := blk_frozen BK392.out 4; have hfz100_5 := blk_frozen BK392.out 5; have hfz100_6 := blk_frozen BK392.out 6; have hfz100_7 := blk_frozen BK392.out 7))
           have n0_ : Aside0 (((((((((w96.setCell ⟨gb392, 0, none⟩ (.int .u32 t384)).setCell ⟨gb392, 1, none⟩ (.int .u32 t385)).setCell ⟨gb392, 2, none⟩ (.int .u32 t386)).setCell ⟨gb392, 3, none⟩ (.int .u32 t387)).setCell ⟨gb392, 4, none⟩ (.int .u32 t388)).setCell ⟨gb392, 5, none⟩ (.int .u32 t389)).setCell ⟨gb392, 6, none⟩ (.int .u32 t390)).setCell ⟨gb392, 7, none⟩ (.int .u32 t391)).heap[gb353]? = some (.cells #[.slice A0_0 l0_0.length c0_0, .int .i64 a0_1, .int .u64 a0_2, .int .u64 a0_3, .int .u64 a0_4, .int .u64 a0_5, .bool false] 36 (0, 0))) := ⟨by (repeat (first | (with_reducible first | refine blk_drewN ?_ _ | refine blk_drew ?_ | refine blk_alloc ?_ _) | refine blk_far ?_ NB353_392.out _)); (with_reducible repeat (first | refine blk_drewN ?_ _ | refine blk_drew ?_ | refine blk_alloc ?_ _)); exact BK353.out⟩
           have n1_ : Aside0 (((((((((w96.setCell ⟨gb392, 0, none⟩ (.int .u32 t384)).setCell ⟨gb392, 1, none⟩ (.int .u32 t385)).setCell ⟨gb392, 2, none⟩ (.int .u32 t386)).setCell ⟨gb392, 3, none⟩ (.int .u32 t387)).setCell ⟨gb392, 4, none⟩ (.int .u32 t388)).setCell ⟨gb392, 5, none⟩ (.int .u32 t389)).setCell ⟨gb392, 6, none⟩ (.int .u32 t390)).setCell ⟨gb392, 7, none⟩ (.int .u32 t391)).heap[gb365]? = some (.cells #[.int .u32 t357, .int .u32 t358, .int .u32 t359, .int .u32 t360, .int .u32 t361, .int .u32 t362, .int .u32 t363, .int .u32 t364] 41 (0, 0))) := ⟨by (repeat (first | (with_reducible first | refine blk_drewN ?_ _ | refine blk_drew ?_ | refine blk_alloc ?_ _) | refine blk_far ?_ NB365_392.out _)); (with_reducible repeat (first | refine blk_drewN ?_ _ | refine blk_drew ?_ | refine blk_alloc ?_ _)); exact BK365.out⟩
           have n2_ : Aside0 (((((((((w96.setCell ⟨gb392, 0, none⟩ (.int .u32 t384)).setCell ⟨gb392, 1, none⟩ (.int .u32 t385)).setCell ⟨gb392, 2, none⟩ (.int .u32 t386)).setCell ⟨gb392, 3, none⟩ (.int .u32 t387)).setCell ⟨gb392, 4, none⟩ (.int .u32 t388)).setCell ⟨gb392, 5, none⟩ (.int .u32 t389)).setCell ⟨gb392, 6, none⟩ (.int .u32 t390)).setCell ⟨gb392, 7, none⟩ (.int .u32 t391)).heap[gb375]? = some (.cells #[.int .u32 x376000_14, .int .u32 x376001_14, .int .u32 x376002_14, .int .u32 x376003_14, .int .u32 x376004_14, .int .u32 x376005_14, .int .u32 x376006_14, .int .u32 x376007_14] 41 (0, 0))) := ⟨by (repeat (first | (with_reducible first | refine blk_drewN ?_ _ | refine blk_drew ?_ | refine blk_alloc ?_ _) | refine blk_far ?_ NB375_392.out _)); (with_reducible repeat (first | refine blk_drewN ?_ _ | refine blk_drew ?_ | refine blk_alloc ?_ _)); exact BK375.out⟩
           have n3_ : Aside0 (((((((((w96.setCell ⟨gb392, 0, none⟩ (.int .u32 t384)).setCell ⟨gb392, 1, none⟩ (.int .u32 t385)).setCell ⟨gb392, 2, none⟩ (.int .u32 t386)).setCell ⟨gb392, 3, none⟩ (.int .u32 t387)).setCell ⟨gb392, 4, none⟩ (.int .u32 t388)).setCell ⟨gb392, 5, none⟩ (.int .u32 t389)).setCell ⟨gb392, 6, none⟩ (.int .u32 t390)).setCell ⟨gb392, 7, none⟩ (.int .u32 t391)).heap[gb392]? = some (.cells #[.int .u32 t384, .int .u32 t385, .int .u32 t386, .int .u32 t387, .int .u32 t388, .int .u32 t389, .int .u32 t390, .int .u32 t391] 41 (0, 0))) := ⟨by (with_reducible repeat (first | refine blk_drewN ?_ _ | refine blk_drew ?_ | refine blk_alloc ?_ _)); refine blk_put (cs := #[.int .u32 t384, .int .u32 t385, .int .u32 t386, .int .u32 t387, .int .u32 t388, .int .u32 t389, .int .u32 t390, .int .u32 0]) ?_ 7 _ rfl; (with_reducible repeat (first | refine blk_drewN ?_ _ | refine blk_drew ?_ | refine blk_alloc ?_ _)); refine blk_put (cs := #[.int .u32 t384, .int .u32 t385, .int .u32 t386, .int .u32 t387, .int .u32 t388, .int .u32 t389, .int .u32 0, .int .u32 0]) ?_ 6 _ rfl; (with_reducible repeat (first | refine blk_drewN ?_ _ | refine blk_drew ?_ | refine blk_alloc ?_ _)); refine blk_put (cs := #[.int .u32 t384, .int .u32 t385, .int .u32 t386, .int .u32 t387, .int .u32 t388, .int .u32 0, .int .u32 0, .int .u32 0]) ?_ 5 _ rfl; (with_reducible repeat (first | refine blk_drewN ?_ _ | refine blk_drew ?_ | refine blk_alloc ?_ _)); refine blk_put (cs := #[.int .u32 t384, .int .u32 t385, .int .u32 t386, .int .u32 t387, .int .u32 0, .int .u32 0, .int .u32 0, .int .u32 0]) ?_ 4 _ rfl; (with_reducible repeat (first | refine blk_drewN ?_ _ | refine blk_drew ?_ | refine blk_alloc ?_ _)); refine blk_put (cs := #[.int .u32 t384, .int .u32 t385, .int .u32 t386, .int .u32 0, .int .u32 0, .int .u32 0, .int .u32 0, .int .u32 0]) ?_ 3 _ rfl; (with_reducible repeat (first | refine blk_drewN ?_ _ | refine blk_drew ?_ | refine blk_alloc ?_ _)); refine blk_put (cs := #[.int .u32 t384, .int .u32 t385, .int .u32 0, .int .u32 0, .int .u32 0, .int .u32 0, .int .u32 0, .int .u32 0]) ?_ 2 _ rfl; (with_reducible repeat (first | refine blk_drewN ?_ _ | refine blk_drew ?_ | refine blk_alloc ?_ _)); refine blk_put (cs := #[.int .u32 t384, .int .u32 0, .int .u32 0, .int .u32 0, .int .u32 0, .int .u32 0, .int .u32 0, .int .u32 0]) ?_ 1 _ rfl; (with_reducible repeat (first | refine blk_drewN ?_ _ | refine blk_drew ?_ | refine blk_alloc ?_ _)); refine blk_put (cs := #[.int .u32 0, .int .u32 0, .int .u32 0, .int .u32 0, .int .u32 0, .int .u32 0, .int .u32 0, .int .u32 0]) ?_ 0 _ rfl; (with_reducible repeat (first | refine blk_drewN ?_ _ | refine blk_drew ?_ | refine blk_alloc ?_ _)); exact BK392.out⟩
           have n4_ : Aside0 (Below w.heap.size w ((((((((w96.setCell ⟨gb392, 0, none⟩ (.int .u32 t384)).setCell ⟨gb392, 1, none⟩ (.int .u32 t385)).setCell ⟨gb392, 2, none⟩ (.int .u32 t386)).setCell ⟨gb392, 3, none⟩ (.int .u32 t387)).setCell ⟨gb392, 4, none⟩ (.int .u32 t388)).setCell ⟨gb392, 5, none⟩ (.int .u32 t389)).setCell ⟨gb392, 6, none⟩ (.int .u32 t390)).setCell ⟨gb392, 7, none⟩ (.int .u32 t391))) := ⟨by repeat (first | (with_reducible first | exact HB.out | apply below_alloc | apply pw_below_drewN | apply below_drew1 | refine below_set ?_ GE353.out | refine below_set ?_ GE365.out | refine below_set ?_ GE375.out | refine below_set ?_ GE392.out) | exact HB.out)⟩
           (try clear BK353)
           (try clear BK365)
           (try clear BK375)
           (try clear BK392)
           (try clear HB)
           generalize ((((((((w96.setCell ⟨gb392, 0, none⟩ (.int .u32 t384)).setCell ⟨gb392, 1, none⟩ (.int .u32 t385)).setCell ⟨gb392, 2, none⟩ (.int .u32 t386)).setCell ⟨gb392, 3, none⟩ (.int .u32 t387)).setCell ⟨gb392, 4, none⟩ (.int .u32 t388)).setCell ⟨gb392, 5, none⟩ (.int .u32 t389)).setCell ⟨gb392, 6, none⟩ (.int .u32 t390)).setCell ⟨gb392, 7, none⟩ (.int .u32 t391)) = w101 at n0_ n1_ n2_ n3_ n4_ ⊢
           have BK353 := n0_
           have BK365 := n1_
           have BK375 := n2_
           have BK392 := n3_
           have HB := n4_
           clear n0_ n1_ n2_ n3_ n4_
           have n0_ := Aside0.mk (blk_drew BK353.out)
           have n1_ := Aside0.mk (blk_drew BK365.out)
           have n2_ := Aside0.mk (blk_drew BK375.out)
           have n3_ := Aside0.mk (blk_drew BK392.out)
           have n4_ := Aside0.mk (below_drew1 HB.out)
           clear BK353
           clear BK365
           clear BK375
           clear BK392
           clear HB
           have BK353 := n0_
           have BK365 := n1_
           have BK375 := n2_
           have BK392 := n3_
           have HB := n4_
           clear n0_ n1_ n2_ n3_ n4_
           refine start_ (n := 11) (S := fun w' => w'.cell? ⟨gb375, 0, none⟩ = some (.int .u32 x376000_14) ∧ w'.cell? ⟨gb375, 1, none⟩ = some (.int .u32 x376001_14) ∧ w'.cell? ⟨gb375, 2, none⟩ = some (.int .u32 x376002_14) ∧ w'.cell? ⟨gb375, 3, none⟩ = some (.int .u32 x376003_14) ∧ w'.cell? ⟨gb375, 4, none⟩ = some (.int .u32 x376004_14) ∧ w'.cell? ⟨gb375, 5, none⟩ = some (.int .u32 x376005_14) ∧ w'.cell? ⟨gb375, 6, none⟩ = some (.int .u32 x376006_14) ∧ w'.cell? ⟨gb375, 7, none⟩ = some (.int .u32 x376007_14) ∧ w'.cell? ⟨gb392, 0, none⟩ = some (.int .u32 t384) ∧ w'.cell? ⟨gb392, 1, none⟩ = some (.int .u32 t385) ∧ w'.cell? ⟨gb392, 2, none⟩ = some (.int .u32 t386) ∧ w'.cell? ⟨gb392, 3, none⟩ = some (.int .u32 t387) ∧ w'.cell? ⟨gb392, 4, none⟩ = some (.int .u32 t388) ∧ w'.cell? ⟨gb392, 5, none⟩ = some (.int .u32 t389) ∧ w'.cell? ⟨gb392, 6, none⟩ = some (.int .u32 t390) ∧ w'.cell? ⟨gb392, 7, none⟩ = some (.int .u32 t391)) (ds := []) #[F, F, F, F, F, F, F, F, F, F, F] (by kernel_rfl) rfl rfl ⟨(blk_cell BK375.out 0).trans rfl, (blk_cell BK375.out 1).trans rfl, (blk_cell BK375.out 2).trans rfl, (blk_cell BK375.out 3).trans rfl, (blk_cell BK375.out 4).trans rfl, (blk_cell BK375.out 5).trans rfl, (blk_cell BK375.out 6).trans rfl, (blk_cell BK375.out 7).trans rfl, (blk_cell BK392.out 0).trans rfl, (blk_cell BK392.out 1).trans rfl, (blk_cell BK392.out 2).trans rfl, (blk_cell BK392.out 3).trans rfl, (blk_cell BK392.out 4).trans rfl, (blk_cell BK392.out 5).trans rfl, (blk_cell BK392.out 6).trans rfl, (blk_cell BK392.out 7).trans rfl⟩ (fun hHeld => ?_); refine with_tabW law4B.tab12 law4B.bits12 (fun HT_ HW_ => ?_)
           generalize w101.drew = w102 at BK353 BK365 BK375 BK392 HB hHeld ⊢
           refine take_ (i := 0) (N := some 64) (v := ?_) (a' := ?_) #[T, F, F, F, F, F, F, F, F, F, F] rfl rfl (take_ofW HT_.out HW_.out (by kernel_rfl)) (fun _ _ _ h => h) (Or.inl ⟨by rfl, ?_⟩) hHeld ?_ ?_
           rotate_left
           ·
            rintro w' ⟨s0, s1, s2, s3, s4, s5, s6, s7, s8, s9, s10, s11, s12, s13, s14, s15⟩
            (try simp only [add_plain] at s0 s1 s2 s3 s4 s5 s6 s7 s8 s9 s10 s11 s12 s13 s14 s15)
            go_simp
            with_reducible rfl
           rotate_left
           ·
            simp only [Act.put, List.setIfInBounds_toArray, List.set_cons_zero, List.set_cons_succ, i64_w, i32_w]
            rfl
           refine take_ (i := 1) (N := some 65) (v := ?_) (a' := ?_) #[T, T, F, F, F, F, F, F, F, F, F] rfl rfl (take_ofW HT_.out HW_.out (by kernel_rfl)) (fun _ _ _ h => h) (Or.inl ⟨by rfl, ?_⟩) hHeld ?_ ?_
           rotate_left
           ·
            rintro w' ⟨s0, s1, s2, s3, s4, s5, s6, s7, s8, s9, s10, s11, s12, s13, s14, s15⟩
            (try simp only [add_plain] at s0 s1 s2 s3 s4 s5 s6 s7 s8 s9 s10 s11 s12 s13 s14 s15)
            go_simp
            with_reducible rfl
           rotate_left
           ·
            simp only [Act.put, List.setIfInBounds_toArray, List.set_cons_zero, List.set_cons_succ, i64_w, i32_w]
            rfl
           refine join_ (σ := Nat) 2 #[T, T, T, T, T, T, T, T, T, F, F] (fun s_ => [(66, .agg #[.int .u32 t393, .int .u32 t394, .int .u32 t395, .int .u32 t396, .int .u32 t397, .int .u32 t398, .int .u32 t399, .int .u32 t400]), (67, .agg #[.int .u32 t401, .int .u32 t402, .int .u32 t403, .int .u32 t404, .int .u32 t405, .int .u32 t406, .int .u32 t407, .int .u32 t408]), (68, .tuple #[.agg #[.int .u32 t409, .int .u32 t410, .int .u32 t411, .int .u32 t412, .int .u32 t413, .int .u32 t414, .int .u32 t415, .int .u32 t416], .bool false]), (8, .pointer (some ⟨s_, 0, none⟩)), (63, .tuple #[.agg #[.int .u32 t409, .int .u32 t410, .int .u32 t411, .int .u32 t412, .int .u32 t413, .int .u32 t414, .int .u32 t415, .int .u32 t416], .bool false]), (69, .agg #[.int .u32 t409, .int .u32 t410, .int .u32 t411, .int .u32 t412, .int .u32 t413, .int .u32 t414, .int .u32 t415, .int .u32 t416]), (70, .bool false)]) (fun s_ w' => (w'.cell? ⟨gb375, 0, none⟩ = some (.int .u32 x376000_14) ∧ w'.cell? ⟨gb375, 1, none⟩ = some (.int .u32 x376001_14) ∧ w'.cell? ⟨gb375, 2, none⟩ = some (.int .u32 x376002_14) ∧ w'.cell? ⟨gb375, 3, none⟩ = some (.int .u32 x376003_14) ∧ w'.cell? ⟨gb375, 4, none⟩ = some (.int .u32 x376004_14) ∧ w'.cell? ⟨gb375, 5, none⟩ = some (.int .u32 x376005_14) ∧ w'.cell? ⟨gb375, 6, none⟩ = some (.int .u32 x376006_14) ∧ w'.cell? ⟨gb375, 7, none⟩ = some (.int .u32 x376007_14) ∧ w'.cell? ⟨gb392, 0, none⟩ = some (.int .u32 t384) ∧ w'.cell? ⟨gb392, 1, none⟩ = some (.int .u32 t385) ∧ w'.cell? ⟨gb392, 2, none⟩ = some (.int .u32 t386) ∧ w'.cell? ⟨gb392, 3, none⟩ = some (.int .u32 t387) ∧ w'.cell? ⟨gb392, 4, none⟩ = some (.int .u32 t388) ∧ w'.cell? ⟨gb392, 5, none⟩ = some (.int .u32 t389) ∧ w'.cell? ⟨gb392, 6, none⟩ = some (.int .u32 t390) ∧ w'.cell? ⟨gb392, 7, none⟩ = some (.int .u32 t391)) ∧ (w'.heap[gb353]? = some (.cells #[.slice A0_0 l0_0.length c0_0, .int .i64 a0_1, .int .u64 a0_2, .int .u64 a0_3, .int .u64 a0_4, .int .u64 a0_5, .bool false] 36 (0, 0))) ∧ (w'.heap[gb365]? = some (.cells #[.int .u32 t357, .int .u32 t358, .int .u32 t359, .int .u32 t360, .int .u32 t361, .int .u32 t362, .int .u32 t363, .int .u32 t364] 41 (0, 0))) ∧ (w'.heap[gb375]? = some (.cells #[.int .u32 x376000_14, .int .u32 x376001_14, .int .u32 x376002_14, .int .u32 x376003_14, .int .u32 x376004_14, .int .u32 x376005_14, .int .u32 x376006_14, .int .u32 x376007_14] 41 (0, 0))) ∧ (w'.heap[gb392]? = some (.cells #[.int .u32 t384, .int .u32 t385, .int .u32 t386, .int .u32 t387, .int .u32 t388, .int .u32 t389, .int .u32 t390, .int .u32 t391] 41 (0, 0))) ∧ (w'.heap[s_]? = some (.cells #[.int .u32 0, .int .u32 0, .int .u32 0, .int .u32 0, .int .u32 0, .int .u32 0, .int .u32 0, .int .u32 0] 41 (0, 0))) ∧ (w.heap.size ≤ s_) ∧ (w.heap.size ≤ s_) ∧ (gb353 ≠ s_) ∧ (s_ ≠ gb353) ∧ (gb365 ≠ s_) ∧ (s_ ≠ gb365) ∧ (gb375 ≠ s_) ∧ (s_ ≠ gb375) ∧ (gb392 ≠ s_) ∧ (s_ ≠ gb392) ∧ (Below w.heap.size w w')) ?_ ?_
           rotate_left
           ·
            intro hCont
            refine two_ (i := 2) (j := 8) (Ni := some 66) (Nj := some 8) #[T, T, T, F, F, F, F, F, F, F, F] #[T, T, F, F, F, F, F, F, T, F, F] rfl rfl rfl rfl (two_of HT_.out (by kernel_rfl)) (by decide) (by decide) (fun K hK => ?_) (fun K hK => ?_)
            ·
             skip
             refine goes_ Try.func13 (by kernel_rfl) rfl #[.agg #[.int .u32 t384, .int .u32 t385, .int .u32 t386, .int .u32 t387, .int .u32 t388, .int .u32 t389, .int .u32 t390, .int .u32 t391]] (by rfl) rfl rfl (by (try simp only [List.map_toArray, List.map_cons, List.map_nil]); first | done | rfl | (simp only [List.length_drop, List.length_take]; rfl)) ?_
             with_reducible refine (offertoryref09_Neg.calls t384 t385 t386 t387 t388 t389 t390 t391 t393 t394 t395 t396 t397 t398 t399 t400 _ A40.out).mono ?_
             rintro e w103 ⟨rfl, hb⟩
             refine ⟨_, rfl, ?_⟩
             have n0_ := law4B.keepB BK353 hb
             have n1_ := law4B.keepB BK365 hb
             have n2_ := law4B.keepB BK375 hb
             have n3_ := law4B.keepB BK392 hb
             have n4_ := Aside0.mk (below_step (by repeat (first | (with_reducible first | exact HB.out | apply below_alloc | apply pw_below_drewN | apply below_drew1 | refine below_set ?_ GE353.out | refine below_set ?_ GE365.out | refine below_set ?_ GE375.out | refine below_set ?_ GE392.out) | exact HB.out)) hb)
             clear BK353
             clear BK365
             clear BK375
             clear BK392
             clear HB
             have BK353 := n0_
             have BK365 := n1_
             have BK375 := n2_
             have BK392 := n3_
             have HB := n4_
             clear n0_ n1_ n2_ n3_ n4_
             (try clear hb)
             (try clear hb2)
             (try clear hk)
             (try clear hi)
             refine hK.out _ _ ⟨(blk_cell BK375.out 0).trans rfl, (blk_cell BK375.out 1).trans rfl, (blk_cell BK375.out 2).trans rfl, (blk_cell BK375.out 3).trans rfl, (blk_cell BK375.out 4).trans rfl, (blk_cell BK375.out 5).trans rfl, (blk_cell BK375.out 6).trans rfl, (blk_cell BK375.out 7).trans rfl, (blk_cell BK392.out 0).trans rfl, (blk_cell BK392.out 1).trans rfl, (blk_cell BK392.out 2).trans rfl, (blk_cell BK392.out 3).trans rfl, (blk_cell BK392.out 4).trans rfl, (blk_cell BK392.out 5).trans rfl, (blk_cell BK392.out 6).trans rfl, (blk_cell BK392.out 7).trans rfl⟩ (fun hHeld => ?_)
             clear hK K
             refine norm_ (a' := ?_) ?_ ?_
             rotate_left
             ·
              show Act.put _ (some 66) _ = _
              simp only [Act.put, List.setIfInBounds_toArray, List.set_cons_zero, List.set_cons_succ, i64_w, i32_w]
              rfl
             refine two_ (i := 3) (j := 8) (Ni := some 67) (Nj := some 8) #[T, T, T, T, F, F, F, F, F, F, F] #[T, T, T, F, F, F, F, F, T, F, F] rfl rfl rfl rfl (two_of HT_.out (by kernel_rfl)) (by decide) (by decide) (fun K hK => ?_) (fun K hK => ?_)
             ·
              skip
              refine goes_ Try.func16 (by kernel_rfl) rfl #[.agg #[.int .u32 x376000_14, .int .u32 x376001_14, .int .u32 x376002_14, .int .u32 x376003_14, .int .u32 x376004_14, .int .u32 x376005_14, .int .u32 x376006_14, .int .u32 x376007_14], .agg #[.int .u32 t393, .int .u32 t394, .int .u32 t395, .int .u32 t396, .int .u32 t397, .int .u32 t398, .int .u32 t399, .int .u32 t400]] (by rfl) rfl rfl (by (try simp only [List.map_toArray, List.map_cons, List.map_nil]); first | done | rfl | (simp only [List.length_drop, List.length_take]; rfl)) ?_
              with_reducible refine (offertoryref09_Add.calls x376000_14 x376001_14 x376002_14 x376003_14 x376004_14 x376005_14 x376006_14 x376007_14 t393 t394 t395 t396 t397 t398 t399 t400 t401 t402 t403 t404 t405 t406 t407 t408 _ A41.out).mono ?_
              rintro e w104 ⟨rfl, hb⟩
              refine ⟨_, rfl, ?_⟩
              have n0_ := law4B.keepB BK353 hb
              have n1_ := law4B.keepB BK365 hb
              have n2_ := law4B.keepB BK375 hb
              have n3_ := law4B.keepB BK392 hb
              have n4_ := Aside0.mk (below_step (by repeat (first | (with_reducible first | exact HB.out | apply below_alloc | apply pw_below_drewN | apply below_drew1 | refine below_set ?_ GE353.out | refine below_set ?_ GE365.out | refine below_set ?_ GE375.out | refine below_set ?_ GE392.out) | exact HB.out)) hb)
              clear BK353
              clear BK365
              clear BK375
              clear BK392
              clear HB
              have BK353 := n0_
              have BK365 := n1_
              have BK375 := n2_
              have BK392 := n3_
              have HB := n4_
              clear n0_ n1_ n2_ n3_ n4_
              (try clear hb)
              (try clear hb2)
              (try clear hk)
              (try clear hi)
              refine hK.out _ _ ⟨(blk_cell BK375.out 0).trans rfl, (blk_cell BK375.out 1).trans rfl, (blk_cell BK375.out 2).trans rfl, (blk_cell BK375.out 3).trans rfl, (blk_cell BK375.out 4).trans rfl, (blk_cell BK375.out 5).trans rfl, (blk_cell BK375.out 6).trans rfl, (blk_cell BK375.out 7).trans rfl, (blk_cell BK392.out 0).trans rfl, (blk_cell BK392.out 1).trans rfl, (blk_cell BK392.out 2).trans rfl, (blk_cell BK392.out 3).trans rfl, (blk_cell BK392.out 4).trans rfl, (blk_cell BK392.out 5).trans rfl, (blk_cell BK392.out 6).trans rfl, (blk_cell BK392.out 7).trans rfl⟩ (fun hHeld => ?_)
              clear hK K
              refine norm_ (a' := ?_) ?_ ?_
              rotate_left
              ·
               show Act.put _ (some 67) _ = _
               simp only [Act.put, List.setIfInBounds_toArray, List.set_cons_zero, List.set_cons_succ, i64_w, i32_w]
               rfl
              refine two_ (i := 4) (j := 8) (Ni := some 68) (Nj := some 8) #[T, T, T, T, T, F, F, F, F, F, F] #[T, T, T, T, F, F, F, F, T, F, F] rfl rfl rfl rfl (two_of HT_.out (by kernel_rfl)) (by decide) (by decide) (fun K hK => ?_) (fun K hK => ?_)
              ·
               skip
               refine goes_ Try.func15 (by kernel_rfl) rfl #[.agg #[.int .u32 t401, .int .u32 t402, .int .u32 t403, .int .u32 t404, .int .u32 t405, .int .u32 t406, .int .u32 t407, .int .u32 t408]] (by rfl) rfl rfl (by (try simp only [List.map_toArray, List.map_cons, List.map_nil]); first | done | rfl | (simp only [List.length_drop, List.length_take]; rfl)) ?_
               with_reducible refine (offertoryref09_Signed.calls t401 t402 t403 t404 t405 t406 t407 t408 t409 t410 t411 t412 t413 t414 t415 t416 false _ A42.out).mono ?_
               rintro e w105 ⟨rfl, hb⟩
               refine ⟨_, rfl, ?_⟩
               have n0_ := law4B.keepB BK353 hb
               have n1_ := law4B.keepB BK365 hb
               have n2_ := law4B.keepB BK375 hb
               have n3_ := law4B.keepB BK392 hb
               have n4_ := Aside0.mk (below_step (by repeat (first | (with_reducible first | exact HB.out | apply below_alloc | apply pw_below_drewN | apply below_drew1 | refine below_set ?_ GE353.out | refine below_set ?_ GE365.out | refine below_set ?_ GE375.out | refine below_set ?_ GE392.out) | exact HB.out)) hb)
               clear BK353
               clear BK365
               clear BK375
               clear BK392
               clear HB
               have BK353 := n0_
               have BK365 := n1_
               have BK375 := n2_
               have BK392 := n3_
               have HB := n4_
               clear n0_ n1_ n2_ n3_ n4_
               (try clear hb)
               (try clear hb2)
               (try clear hk)
               (try clear hi)
               refine hK.out _ _ ⟨(blk_cell BK375.out 0).trans rfl, (blk_cell BK375.out 1).trans rfl, (blk_cell BK375.out 2).trans rfl, (blk_cell BK375.out 3).trans rfl, (blk_cell BK375.out 4).trans rfl, (blk_cell BK375.out 5).trans rfl, (blk_cell BK375.out 6).trans rfl, (blk_cell BK375.out 7).trans rfl, (blk_cell BK392.out 0).trans rfl, (blk_cell BK392.out 1).trans rfl, (blk_cell BK392.out 2).trans rfl, (blk_cell BK392.out 3).trans rfl, (blk_cell BK392.out 4).trans rfl, (blk_cell BK392.out 5).trans rfl, (blk_cell BK392.out 6).trans rfl, (blk_cell BK392.out 7).trans rfl⟩ (fun hHeld => ?_)
               clear hK K
               refine norm_ (a' := ?_) ?_ ?_
               rotate_left
               ·
                show Act.put _ (some 68) _ = _
                simp only [Act.put, List.setIfInBounds_toArray, List.set_cons_zero, List.set_cons_succ, i64_w, i32_w]
                rfl
               refine pure_ (i := 5) (N := some 63) (v := ?_) (a' := ?_) #[T, T, T, T, T, T, F, F, F, F, F] rfl rfl (any_of HT_.out (by kernel_rfl)) (fun _ _ _ h => h) (Or.inl ⟨by rfl, ?_⟩) ?_ ?_
               rotate_left
               ·
                intro w'
                (try simp only [add_plain] at s0 s1 s2 s3 s4 s5 s6 s7 s8 s9 s10 s11 s12 s13 s14 s15)
                go_simp
                with_reducible rfl
               rotate_left
               ·
                simp only [Act.put, List.setIfInBounds_toArray, List.set_cons_zero, List.set_cons_succ, i64_w, i32_w]
                rfl
               refine pure_ (i := 6) (N := some 69) (v := ?_) (a' := ?_) #[T, T, T, T, T, T, T, F, F, F, F] rfl rfl (any_of HT_.out (by kernel_rfl)) (fun _ _ _ h => h) (Or.inl ⟨by rfl, ?_⟩) ?_ ?_
               rotate_left
               ·
                intro w'
                (try simp only [add_plain] at s0 s1 s2 s3 s4 s5 s6 s7 s8 s9 s10 s11 s12 s13 s14 s15)
                go_simp
                with_reducible rfl
               rotate_left
               ·
                simp only [Act.put, List.setIfInBounds_toArray, List.set_cons_zero, List.set_cons_succ, i64_w, i32_w]
                rfl
               refine pure_ (i := 7) (N := some 70) (v := ?_) (a' := ?_) #[T, T, T, T, T, T, T, T, F, F, F] rfl rfl (any_of HT_.out (by kernel_rfl)) (fun _ _ _ h => h) (Or.inl ⟨by rfl, ?_⟩) ?_ ?_
               rotate_left
               ·
                intro w'
                (try simp only [add_plain] at s0 s1 s2 s3 s4 s5 s6 s7 s8 s9 s10 s11 s12 s13 s14 s15)
                go_simp
                with_reducible rfl
               rotate_left
               ·
                simp only [Act.put, List.setIfInBounds_toArray, List.set_cons_zero, List.set_cons_succ, i64_w, i32_w]
                rfl
               refine one_ (i := 8) (N := some 8) #[T, T, T, T, T, T, T, T, T, F, F] rfl rfl (one_of HT_.out (by kernel_rfl)) (by decide) (fun K hK => ?_)
               refine box_step ?hg (N := 8) ?hd (cs := #[.int .u32 0, .int .u32 0, .int .u32 0, .int .u32 0, .int .u32 0, .int .u32 0, .int .u32 0, .int .u32 0]) (t := 41) ?hr ?_; (case hd => rfl); (case hg => rfl); (case hr => first | (go_simp; done) | (go_simp; rfl))
               intro gb418 hg w106 hbox hb
               have n0_ := law4B.keepB BK353 hb
               have n1_ := law4B.keepB BK365 hb
               have n2_ := law4B.keepB BK375 hb
               have n3_ := law4B.keepB BK392 hb
               have n4_ := Aside0.mk (below_step (by repeat (first | (with_reducible first | exact HB.out | apply below_alloc | apply pw_below_drewN | apply below_drew1 | refine below_set ?_ GE353.out | refine below_set ?_ GE365.out | refine below_set ?_ GE375.out | refine below_set ?_ GE392.out) | exact HB.out)) hb)
               have n5_ := Aside0.mk (hbox)
               have n6_ := Aside0.mk ((by rw [hg]; exact (below_size (by repeat (first | (with_reducible first | exact HB.out | apply below_alloc | apply pw_below_drewN | apply below_drew1 | refine below_set ?_ GE353.out | refine below_set ?_ GE365.out | refine below_set ?_ GE375.out | refine below_set ?_ GE392.out) | exact HB.out))) : w.heap.size ≤ gb418))
               have n7_ := Aside0.mk ((by rw [hg]; exact (below_size (by repeat (first | (with_reducible first | exact HB.out | apply below_alloc | apply pw_below_drewN | apply below_drew1 | refine below_set ?_ GE353.out | refine below_set ?_ GE365.out | refine below_set ?_ GE375.out | refine below_set ?_ GE392.out) | exact HB.out))) : w.heap.size ≤ gb418))
               have n8_ := law4B.neL BK353 hg
               have n9_ := law4B.neG BK353 hg
               have n10_ := law4B.neL BK365 hg
               have n11_ := law4B.neG BK365 hg
               have n12_ := law4B.neL BK375 hg
               have n13_ := law4B.neG BK375 hg
               have n14_ := law4B.neL BK392 hg
               have n15_ := law4B.neG BK392 hg
               clear BK353
               clear BK365
               clear BK375
               clear BK392
               clear HB
               have BK353 := n0_
               have BK365 := n1_
               have BK375 := n2_
               have BK392 := n3_
               have HB := n4_
               have BK418 := n5_
               have GW418 := n6_
               have GE418 := n7_
               have NB353_418 := n8_
               have NB418_353 := n9_
               have NB365_418 := n10_
               have NB418_365 := n11_
               have NB375_418 := n12_
               have NB418_375 := n13_
               have NB392_418 := n14_
               have NB418_392 := n15_
               clear n0_ n1_ n2_ n3_ n4_ n5_ n6_ n7_ n8_ n9_ n10_ n11_ n12_ n13_ n14_ n15_
               clear hb hbox hg
               refine hK.out _ _ ⟨(blk_cell BK375.out 0).trans rfl, (blk_cell BK375.out 1).trans rfl, (blk_cell BK375.out 2).trans rfl, (blk_cell BK375.out 3).trans rfl, (blk_cell BK375.out 4).trans rfl, (blk_cell BK375.out 5).trans rfl, (blk_cell BK375.out 6).trans rfl, (blk_cell BK375.out 7).trans rfl, (blk_cell BK392.out 0).trans rfl, (blk_cell BK392.out 1).trans rfl, (blk_cell BK392.out 2).trans rfl, (blk_cell BK392.out 3).trans rfl, (blk_cell BK392.out 4).trans rfl, (blk_cell BK392.out 5).trans rfl, (blk_cell BK392.out 6).trans rfl, (blk_cell BK392.out 7).trans rfl⟩ (fun hHeld => ?_)
               clear hK K
               refine norm_ (a' := ?_) ?_ ?_
               rotate_left
               ·
                show Act.put _ (some 8) _ = _
                simp only [Act.put, List.setIfInBounds_toArray, List.set_cons_zero, List.set_cons_succ, i64_w, i32_w]
                rfl
               exact norm_ (by simp only [putAll, Act.put, List.setIfInBounds_toArray, List.set_cons_zero, List.set_cons_succ]) (hCont (gb418) _ ⟨hHeld, (by (with_reducible repeat (first | refine blk_drewN ?_ _ | refine blk_drew ?_ | refine blk_alloc ?_ _)); exact BK353.out), (by (with_reducible repeat (first | refine blk_drewN ?_ _ | refine blk_drew ?_ | refine blk_alloc ?_ _)); exact BK365.out), (by (with_reducible repeat (first | refine blk_drewN ?_ _ | refine blk_drew ?_ | refine blk_alloc ?_ _)); exact BK375.out), (by (with_reducible repeat (first | refine blk_drewN ?_ _ | refine blk_drew ?_ | refine blk_alloc ?_ _)); exact BK392.out), (by (with_reducible repeat (first | refine blk_drewN ?_ _ | refine blk_drew ?_ | refine blk_alloc ?_ _)); exact BK418.out), GW418.out, GE418.out, NB353_418.out, NB418_353.out, NB365_418.out, NB418_365.out, NB375_418.out, NB418_375.out, NB392_418.out, NB418_392.out, (by repeat (first | (with_reducible first | exact HB.out | apply below_alloc | apply pw_below_drewN | apply below_drew1 | refine below_set ?_ GE353.out | refine below_set ?_ GE365.out | refine below_set ?_ GE375.out | refine below_set ?_ GE392.out | refine below_set ?_ GE418.out) | exact HB.out))⟩)
              ·
               skip
               refine box_step ?hg (N := 8) ?hd (cs := #[.int .u32 0, .int .u32 0, .int .u32 0, .int .u32 0, .int .u32 0, .int .u32 0, .int .u32 0, .int .u32 0]) (t := 41) ?hr ?_; (case hd => rfl); (case hg => rfl); (case hr => first | (go_simp; done) | (go_simp; rfl))
               intro gb418 hg w105 hbox hb
               have n0_ := law4B.keepB BK353 hb
               have n1_ := law4B.keepB BK365 hb
               have n2_ := law4B.keepB BK375 hb
               have n3_ := law4B.keepB BK392 hb
               have n4_ := Aside0.mk (below_step (by repeat (first | (with_reducible first | exact HB.out | apply below_alloc | apply pw_below_drewN | apply below_drew1 | refine below_set ?_ GE353.out | refine below_set ?_ GE365.out | refine below_set ?_ GE375.out | refine below_set ?_ GE392.out) | exact HB.out)) hb)
               have n5_ := Aside0.mk (hbox)
               have n6_ := Aside0.mk ((by rw [hg]; exact (below_size (by repeat (first | (with_reducible first | exact HB.out | apply below_alloc | apply pw_below_drewN | apply below_drew1 | refine below_set ?_ GE353.out | refine below_set ?_ GE365.out | refine below_set ?_ GE375.out | refine below_set ?_ GE392.out) | exact HB.out))) : w.heap.size ≤ gb418))
               have n7_ := Aside0.mk ((by rw [hg]; exact (below_size (by repeat (first | (with_reducible first | exact HB.out | apply below_alloc | apply pw_below_drewN | apply below_drew1 | refine below_set ?_ GE353.out | refine below_set ?_ GE365.out | refine below_set ?_ GE375.out | refine below_set ?_ GE392.out) | exact HB.out))) : w.heap.size ≤ gb418))
               have n8_ := law4B.neL BK353 hg
               have n9_ := law4B.neG BK353 hg
               have n10_ := law4B.neL BK365 hg
               have n11_ := law4B.neG BK365 hg
               have n12_ := law4B.neL BK375 hg
               have n13_ := law4B.neG BK375 hg
               have n14_ := law4B.neL BK392 hg
               have n15_ := law4B.neG BK392 hg
               clear BK353
               clear BK365
               clear BK375
               clear BK392
               clear HB
               have BK353 := n0_
               have BK365 := n1_
               have BK375 := n2_
               have BK392 := n3_
               have HB := n4_
               have BK418 := n5_
               have GW418 := n6_
               have GE418 := n7_
               have NB353_418 := n8_
               have NB418_353 := n9_
               have NB365_418 := n10_
               have NB418_365 := n11_
               have NB375_418 := n12_
               have NB418_375 := n13_
               have NB392_418 := n14_
               have NB418_392 := n15_
               clear n0_ n1_ n2_ n3_ n4_ n5_ n6_ n7_ n8_ n9_ n10_ n11_ n12_ n13_ n14_ n15_
               clear hb hbox hg
               refine hK.out _ _ ⟨(blk_cell BK375.out 0).trans rfl, (blk_cell BK375.out 1).trans rfl, (blk_cell BK375.out 2).trans rfl, (blk_cell BK375.out 3).trans rfl, (blk_cell BK375.out 4).trans rfl, (blk_cell BK375.out 5).trans rfl, (blk_cell BK375.out 6).trans rfl, (blk_cell BK375.out 7).trans rfl, (blk_cell BK392.out 0).trans rfl, (blk_cell BK392.out 1).trans rfl, (blk_cell BK392.out 2).trans rfl, (blk_cell BK392.out 3).trans rfl, (blk_cell BK392.out 4).trans rfl, (blk_cell BK392.out 5).trans rfl, (blk_cell BK392.out 6).trans rfl, (blk_cell BK392.out 7).trans rfl⟩ (fun hHeld => ?_)
               clear hK K
               refine norm_ (a' := ?_) ?_ ?_
               rotate_left
               ·
                show Act.put _ (some 8) _ = _
                simp only [Act.put, List.setIfInBounds_toArray, List.set_cons_zero, List.set_cons_succ, i64_w, i32_w]
                rfl
               refine one_ (i := 4) (N := some 68) #[T, T, T, T, T, F, F, F, T, F, F] rfl rfl (one_of HT_.out (by kernel_rfl)) (by decide) (fun K hK => ?_)
               refine goes_ Try.func15 (by kernel_rfl) rfl #[.agg #[.int .u32 t401, .int .u32 t402, .int .u32 t403, .int .u32 t404, .int .u32 t405, .int .u32 t406, .int .u32 t407, .int .u32 t408]] (by rfl) rfl rfl (by (try simp only [List.map_toArray, List.map_cons, List.map_nil]); first | done | rfl | (simp only [List.length_drop, List.length_take]; rfl)) ?_
               with_reducible refine (offertoryref09_Signed.calls t401 t402 t403 t404 t405 t406 t407 t408 t409 t410 t411 t412 t413 t414 t415 t416 false _ A42.out).mono ?_
               rintro e w106 ⟨rfl, hb⟩
               refine ⟨_, rfl, ?_⟩
               have n0_ := law4B.keepB BK353 hb
               have n1_ := law4B.keepB BK365 hb
               have n2_ := law4B.keepB BK375 hb
               have n3_ := law4B.keepB BK392 hb
               have n4_ := law4B.keepB BK418 hb
               have n5_ := Aside0.mk (below_step (by repeat (first | (with_reducible first | exact HB.out | apply below_alloc | apply pw_below_drewN | apply below_drew1 | refine below_set ?_ GE353.out | refine below_set ?_ GE365.out | refine below_set ?_ GE375.out | refine below_set ?_ GE392.out | refine below_set ?_ GE418.out) | exact HB.out)) hb)
               clear BK353
               clear BK365
               clear BK375
               clear BK392
               clear BK418
               clear HB
               have BK353 := n0_
               have BK365 := n1_
               have BK375 := n2_
               have BK392 := n3_
               have BK418 := n4_
               have HB := n5_
               clear n0_ n1_ n2_ n3_ n4_ n5_
               (try clear hb)
               (try clear hb2)
               (try clear hk)
               (try clear hi)
               refine hK.out _ _ ⟨(blk_cell BK375.out 0).trans rfl, (blk_cell BK375.out 1).trans rfl, (blk_cell BK375.out 2).trans rfl, (blk_cell BK375.out 3).trans rfl, (blk_cell BK375.out 4).trans rfl, (blk_cell BK375.out 5).trans rfl, (blk_cell BK375.out 6).trans rfl, (blk_cell BK375.out 7).trans rfl, (blk_cell BK392.out 0).trans rfl, (blk_cell BK392.out 1).trans rfl, (blk_cell BK392.out 2).trans rfl, (blk_cell BK392.out 3).trans rfl, (blk_cell BK392.out 4).trans rfl, (blk_cell BK392.out 5).trans rfl, (blk_cell BK392.out 6).trans rfl, (blk_cell BK392.out 7).trans rfl⟩ (fun hHeld => ?_)
               clear hK K
               refine norm_ (a' := ?_) ?_ ?_
               rotate_left
               ·
                show Act.put _ (some 68) _ = _
                simp only [Act.put, List.setIfInBounds_toArray, List.set_cons_zero, List.set_cons_succ, i64_w, i32_w]
                rfl
               refine pure_ (i := 5) (N := some 63) (v := ?_) (a' := ?_) #[T, T, T, T, T, T, F, F, T, F, F] rfl rfl (any_of HT_.out (by kernel_rfl)) (fun _ _ _ h => h) (Or.inl ⟨by rfl, ?_⟩) ?_ ?_
               rotate_left
               ·
                intro w'
                (try simp only [add_plain] at s0 s1 s2 s3 s4 s5 s6 s7 s8 s9 s10 s11 s12 s13 s14 s15)
                go_simp
                with_reducible rfl
               rotate_left
               ·
                simp only [Act.put, List.setIfInBounds_toArray, List.set_cons_zero, List.set_cons_succ, i64_w, i32_w]
                rfl
               refine pure_ (i := 6) (N := some 69) (v := ?_) (a' := ?_) #[T, T, T, T, T, T, T, F, T, F, F] rfl rfl (any_of HT_.out (by kernel_rfl)) (fun _ _ _ h => h) (Or.inl ⟨by rfl, ?_⟩) ?_ ?_
               rotate_left
               ·
                intro w'
                (try simp only [add_plain] at s0 s1 s2 s3 s4 s5 s6 s7 s8 s9 s10 s11 s12 s13 s14 s15)
                go_simp
                with_reducible rfl
               rotate_left
               ·
                simp only [Act.put, List.setIfInBounds_toArray, List.set_cons_zero, List.set_cons_succ, i64_w, i32_w]
                rfl
               refine pure_ (i := 7) (N := some 70) (v := ?_) (a' := ?_) #[T, T, T, T, T, T, T, T, T, F, F] rfl rfl (any_of HT_.out (by kernel_rfl)) (fun _ _ _ h => h) (Or.inl ⟨by rfl, ?_⟩) ?_ ?_
               rotate_left
               ·
                intro w'
                (try simp only [add_plain] at s0 s1 s2 s3 s4 s5 s6 s7 s8 s9 s10 s11 s12 s13 s14 s15)
                go_simp
                with_reducible rfl
               rotate_left
               ·
                simp only [Act.put, List.setIfInBounds_toArray, List.set_cons_zero, List.set_cons_succ, i64_w, i32_w]
                rfl
               exact norm_ (by simp only [putAll, Act.put, List.setIfInBounds_toArray, List.set_cons_zero, List.set_cons_succ]) (hCont (gb418) _ ⟨hHeld, (by (with_reducible repeat (first | refine blk_drewN ?_ _ | refine blk_drew ?_ | refine blk_alloc ?_ _)); exact BK353.out), (by (with_reducible repeat (first | refine blk_drewN ?_ _ | refine blk_drew ?_ | refine blk_alloc ?_ _)); exact BK365.out), (by (with_reducible repeat (first | refine blk_drewN ?_ _ | refine blk_drew ?_ | refine blk_alloc ?_ _)); exact BK375.out), (by (with_reducible repeat (first | refine blk_drewN ?_ _ | refine blk_drew ?_ | refine blk_alloc ?_ _)); exact BK392.out), (by (with_reducible repeat (first | refine blk_drewN ?_ _ | refine blk_drew ?_ | refine blk_alloc ?_ _)); exact BK418.out), GW418.out, GE418.out, NB353_418.out, NB418_353.out, NB365_418.out, NB418_365.out, NB375_418.out, NB418_375.out, NB392_418.out, NB418_392.out, (by repeat (first | (with_reducible first | exact HB.out | apply below_alloc | apply pw_below_drewN | apply below_drew1 | refine below_set ?_ GE353.out | refine below_set ?_ GE365.out | refine below_set ?_ GE375.out | refine below_set ?_ GE392.out | refine below_set ?_ GE418.out) | exact HB.out))⟩)
             ·
              skip
              refine box_step ?hg (N := 8) ?hd (cs := #[.int .u32 0, .int .u32 0, .int .u32 0, .int .u32 0, .int .u32 0, .int .u32 0, .int .u32 0, .int .u32 0]) (t := 41) ?hr ?_; (case hd => rfl); (case hg => rfl); (case hr => first | (go_simp; done) | (go_simp; rfl))
              intro gb418 hg w104 hbox hb
              have n0_ := law4B.keepB BK353 hb
              have n1_ := law4B.keepB BK365 hb
              have n2_ := law4B.keepB BK375 hb
              have n3_ := law4B.keepB BK392 hb
              have n4_ := Aside0.mk (below_step (by repeat (first | (with_reducible first | exact HB.out | apply below_alloc | apply pw_below_drewN | apply below_drew1 | refine below_set ?_ GE353.out | refine below_set ?_ GE365.out | refine below_set ?_ GE375.out | refine below_set ?_ GE392.out) | exact HB.out)) hb)
              have n5_ := Aside0.mk (hbox)
              have n6_ := Aside0.mk ((by rw [hg]; exact (below_size (by repeat (first | (with_reducible first | exact HB.out | apply below_alloc | apply pw_below_drewN | apply below_drew1 | refine below_set ?_ GE353.out | refine below_set ?_ GE365.out | refine below_set ?_ GE375.out | refine below_set ?_ GE392.out) | exact HB.out))) : w.heap.size ≤ gb418))
              have n7_ := Aside0.mk ((by rw [hg]; exact (below_size (by repeat (first | (with_reducible first | exact HB.out | apply below_alloc | apply pw_below_drewN | apply below_drew1 | refine below_set ?_ GE353.out | refine below_set ?_ GE365.out | refine below_set ?_ GE375.out | refine below_set ?_ GE392.out) | exact HB.out))) : w.heap.size ≤ gb418))
              have n8_ := law4B.neL BK353 hg
              have n9_ := law4B.neG BK353 hg
              have n10_ := law4B.neL BK365 hg
              have n11_ := law4B.neG BK365 hg
              have n12_ := law4B.neL BK375 hg
              have n13_ := law4B.neG BK375 hg
              have n14_ := law4B.neL BK392 hg
              have n15_ := law4B.neG BK392 hg
              clear BK353
              clear BK365
              clear BK375
              clear BK392
              clear HB
              have BK353 := n0_
              have BK365 := n1_
              have BK375 := n2_
              have BK392 := n3_
              have HB := n4_
              have BK418 := n5_
              have GW418 := n6_
              have GE418 := n7_
              have NB353_418 := n8_
              have NB418_353 := n9_
              have NB365_418 := n10_
              have NB418_365 := n11_
              have NB375_418 := n12_
              have NB418_375 := n13_
              have NB392_418 := n14_
              have NB418_392 := n15_
              clear n0_ n1_ n2_ n3_ n4_ n5_ n6_ n7_ n8_ n9_ n10_ n11_ n12_ n13_ n14_ n15_
              clear hb hbox hg
              refine hK.out _ _ ⟨(blk_cell BK375.out 0).trans rfl, (blk_cell BK375.out 1).trans rfl, (blk_cell BK375.out 2).trans rfl, (blk_cell BK375.out 3).trans rfl, (blk_cell BK375.out 4).trans rfl, (blk_cell BK375.out 5).trans rfl, (blk_cell BK375.out 6).trans rfl, (blk_cell BK375.out 7).trans rfl, (blk_cell BK392.out 0).trans rfl, (blk_cell BK392.out 1).trans rfl, (blk_cell BK392.out 2).trans rfl, (blk_cell BK392.out 3).trans rfl, (blk_cell BK392.out 4).trans rfl, (blk_cell BK392.out 5).trans rfl, (blk_cell BK392.out 6).trans rfl, (blk_cell BK392.out 7).trans rfl⟩ (fun hHeld => ?_)
              clear hK K
              refine norm_ (a' := ?_) ?_ ?_
              rotate_left
              ·
               show Act.put _ (some 8) _ = _
               simp only [Act.put, List.setIfInBounds_toArray, List.set_cons_zero, List.set_cons_succ, i64_w, i32_w]
               rfl
              refine one_ (i := 3) (N := some 67) #[T, T, T, T, F, F, F, F, T, F, F] rfl rfl (one_of HT_.out (by kernel_rfl)) (by decide) (fun K hK => ?_)
              refine goes_ Try.func16 (by kernel_rfl) rfl #[.agg #[.int .u32 x376000_14, .int .u32 x376001_14, .int .u32 x376002_14, .int .u32 x376003_14, .int .u32 x376004_14, .int .u32 x376005_14, .int .u32 x376006_14, .int .u32 x376007_14], .agg #[.int .u32 t393, .int .u32 t394, .int .u32 t395, .int .u32 t396, .int .u32 t397, .int .u32 t398, .int .u32 t399, .int .u32 t400]] (by rfl) rfl rfl (by (try simp only [List.map_toArray, List.map_cons, List.map_nil]); first | done | rfl | (simp only [List.length_drop, List.length_take]; rfl)) ?_
              with_reducible refine (offertoryref09_Add.calls x376000_14 x376001_14 x376002_14 x376003_14 x376004_14 x376005_14 x376006_14 x376007_14 t393 t394 t395 t396 t397 t398 t399 t400 t401 t402 t403 t404 t405 t406 t407 t408 _ A41.out).mono ?_
              rintro e w105 ⟨rfl, hb⟩
              refine ⟨_, rfl, ?_⟩
              have n0_ := law4B.keepB BK353 hb
              have n1_ := law4B.keepB BK365 hb
              have n2_ := law4B.keepB BK375 hb
              have n3_ := law4B.keepB BK392 hb
              have n4_ := law4B.keepB BK418 hb
              have n5_ := Aside0.mk (below_step (by repeat (first | (with_reducible first | exact HB.out | apply below_alloc | apply pw_below_drewN | apply below_drew1 | refine below_set ?_ GE353.out | refine below_set ?_ GE365.out | refine below_set ?_ GE375.out | refine below_set ?_ GE392.out | refine below_set ?_ GE418.out) | exact HB.out)) hb)
              clear BK353
              clear BK365
              clear BK375
              clear BK392
              clear BK418
              clear HB
              have BK353 := n0_
              have BK365 := n1_
              have BK375 := n2_
              have BK392 := n3_
              have BK418 := n4_
              have HB := n5_
              clear n0_ n1_ n2_ n3_ n4_ n5_
              (try clear hb)
              (try clear hb2)
              (try clear hk)
              (try clear hi)
              refine hK.out _ _ ⟨(blk_cell BK375.out 0).trans rfl, (blk_cell BK375.out 1).trans rfl, (blk_cell BK375.out 2).trans rfl, (blk_cell BK375.out 3).trans rfl, (blk_cell BK375.out 4).trans rfl, (blk_cell BK375.out 5).trans rfl, (blk_cell BK375.out 6).trans rfl, (blk_cell BK375.out 7).trans rfl, (blk_cell BK392.out 0).trans rfl, (blk_cell BK392.out 1).trans rfl, (blk_cell BK392.out 2).trans rfl, (blk_cell BK392.out 3).trans rfl, (blk_cell BK392.out 4).trans rfl, (blk_cell BK392.out 5).trans rfl, (blk_cell BK392.out 6).trans rfl, (blk_cell BK392.out 7).trans rfl⟩ (fun hHeld => ?_)
              clear hK K
              refine norm_ (a' := ?_) ?_ ?_
              rotate_left
              ·
               show Act.put _ (some 67) _ = _
               simp only [Act.put, List.setIfInBounds_toArray, List.set_cons_zero, List.set_cons_succ, i64_w, i32_w]
               rfl
              refine one_ (i := 4) (N := some 68) #[T, T, T, T, T, F, F, F, T, F, F] rfl rfl (one_of HT_.out (by kernel_rfl)) (by decide) (fun K hK => ?_)
              refine goes_ Try.func15 (by kernel_rfl) rfl #[.agg #[.int .u32 t401, .int .u32 t402, .int .u32 t403, .int .u32 t404, .int .u32 t405, .int .u32 t406, .int .u32 t407, .int .u32 t408]] (by rfl) rfl rfl (by (try simp only [List.map_toArray, List.map_cons, List.map_nil]); first | done | rfl | (simp only [List.length_drop, List.length_take]; rfl)) ?_
              with_reducible refine (offertoryref09_Signed.calls t401 t402 t403 t404 t405 t406 t407 t408 t409 t410 t411 t412 t413 t414 t415 t416 false _ A42.out).mono ?_
              rintro e w106 ⟨rfl, hb⟩
              refine ⟨_, rfl, ?_⟩
              have n0_ := law4B.keepB BK353 hb
              have n1_ := law4B.keepB BK365 hb
              have n2_ := law4B.keepB BK375 hb
              have n3_ := law4B.keepB BK392 hb
              have n4_ := law4B.keepB BK418 hb
              have n5_ := Aside0.mk (below_step (by repeat (first | (with_reducible first | exact HB.out | apply below_alloc | apply pw_below_drewN | apply below_drew1 | refine below_set ?_ GE353.out | refine below_set ?_ GE365.out | refine below_set ?_ GE375.out | refine below_set ?_ GE392.out | refine below_set ?_ GE418.out) | exact HB.out)) hb)
              clear BK353
              clear BK365
              clear BK375
              clear BK392
              clear BK418
              clear HB
              have BK353 := n0_
              have BK365 := n1_
              have BK375 := n2_
              have BK392 := n3_
              have BK418 := n4_
              have HB := n5_
              clear n0_ n1_ n2_ n3_ n4_ n5_
              (try clear hb)
              (try clear hb2)
              (try clear hk)
              (try clear hi)
              refine hK.out _ _ ⟨(blk_cell BK375.out 0).trans rfl, (blk_cell BK375.out 1).trans rfl, (blk_cell BK375.out 2).trans rfl, (blk_cell BK375.out 3).trans rfl, (blk_cell BK375.out 4).trans rfl, (blk_cell BK375.out 5).trans rfl, (blk_cell BK375.out 6).trans rfl, (blk_cell BK375.out 7).trans rfl, (blk_cell BK392.out 0).trans rfl, (blk_cell BK392.out 1).trans rfl, (blk_cell BK392.out 2).trans rfl, (blk_cell BK392.out 3).trans rfl, (blk_cell BK392.out 4).trans rfl, (blk_cell BK392.out 5).trans rfl, (blk_cell BK392.out 6).trans rfl, (blk_cell BK392.out 7).trans rfl⟩ (fun hHeld => ?_)
              clear hK K
              refine norm_ (a' := ?_) ?_ ?_
              rotate_left
              ·
               show Act.put _ (some 68) _ = _
               simp only [Act.put, List.setIfInBounds_toArray, List.set_cons_zero, List.set_cons_succ, i64_w, i32_w]
               rfl
              refine pure_ (i := 5) (N := some 63) (v := ?_) (a' := ?_) #[T, T, T, T, T, T, F, F, T, F, F] rfl rfl (any_of HT_.out (by kernel_rfl)) (fun _ _ _ h => h) (Or.inl ⟨by rfl, ?_⟩) ?_ ?_
              rotate_left
              ·
               intro w'
               (try simp only [add_plain] at s0 s1 s2 s3 s4 s5 s6 s7 s8 s9 s10 s11 s12 s13 s14 s15)
               go_simp
               with_reducible rfl
              rotate_left
              ·
               simp only [Act.put, List.setIfInBounds_toArray, List.set_cons_zero, List.set_cons_succ, i64_w, i32_w]
               rfl
              refine pure_ (i := 6) (N := some 69) (v := ?_) (a' := ?_) #[T, T, T, T, T, T, T, F, T, F, F] rfl rfl (any_of HT_.out (by kernel_rfl)) (fun _ _ _ h => h) (Or.inl ⟨by rfl, ?_⟩) ?_ ?_
              rotate_left
              ·
               intro w'
               (try simp only [add_plain] at s0 s1 s2 s3 s4 s5 s6 s7 s8 s9 s10 s11 s12 s13 s14 s15)
               go_simp
               with_reducible rfl
              rotate_left
              ·
               simp only [Act.put, List.setIfInBounds_toArray, List.set_cons_zero, List.set_cons_succ, i64_w, i32_w]
               rfl
              refine pure_ (i := 7) (N := some 70) (v := ?_) (a' := ?_) #[T, T, T, T, T, T, T, T, T, F, F] rfl rfl (any_of HT_.out (by kernel_rfl)) (fun _ _ _ h => h) (Or.inl ⟨by rfl, ?_⟩) ?_ ?_
              rotate_left
              ·
               intro w'
               (try simp only [add_plain] at s0 s1 s2 s3 s4 s5 s6 s7 s8 s9 s10 s11 s12 s13 s14 s15)
               go_simp
               with_reducible rfl
              rotate_left
              ·
               simp only [Act.put, List.setIfInBounds_toArray, List.set_cons_zero, List.set_cons_succ, i64_w, i32_w]
               rfl
              exact norm_ (by simp only [putAll, Act.put, List.setIfInBounds_toArray, List.set_cons_zero, List.set_cons_succ]) (hCont (gb418) _ ⟨hHeld, (by (with_reducible repeat (first | refine blk_drewN ?_ _ | refine blk_drew ?_ | refine blk_alloc ?_ _)); exact BK353.out), (by (with_reducible repeat (first | refine blk_drewN ?_ _ | refine blk_drew ?_ | refine blk_alloc ?_ _)); exact BK365.out), (by (with_reducible repeat (first | refine blk_drewN ?_ _ | refine blk_drew ?_ | refine blk_alloc ?_ _)); exact BK375.out), (by (with_reducible repeat (first | refine blk_drewN ?_ _ | refine blk_drew ?_ | refine blk_alloc ?_ _)); exact BK392.out), (by (with_reducible repeat (first | refine blk_drewN ?_ _ | refine blk_drew ?_ | refine blk_alloc ?_ _)); exact BK418.out), GW418.out, GE418.out, NB353_418.out, NB418_353.out, NB365_418.out, NB418_365.out, NB375_418.out, NB418_375.out, NB392_418.out, NB418_392.out, (by repeat (first | (with_reducible first | exact HB.out | apply below_alloc | apply pw_below_drewN | apply below_drew1 | refine below_set ?_ GE353.out | refine below_set ?_ GE365.out | refine below_set ?_ GE375.out | refine below_set ?_ GE392.out | refine below_set ?_ GE418.out) | exact HB.out))⟩)
            ·
             skip
             refine box_step ?hg (N := 8) ?hd (cs := #[.int .u32 0, .int .u32 0, .int .u32 0, .int .u32 0, .int .u32 0, .int .u32 0, .int .u32 0, .int .u32 0]) (t := 41) ?hr ?_; (case hd => rfl); (case hg => rfl); (case hr => first | (go_simp; done) | (go_simp; rfl))
             intro gb418 hg w103 hbox hb
             have n0_ := law4B.keepB BK353 hb
             have n1_ := law4B.keepB BK365 hb
             have n2_ := law4B.keepB BK375 hb
             have n3_ := law4B.keepB BK392 hb
             have n4_ := Aside0.mk (below_step (by repeat (first | (with_reducible first | exact HB.out | apply below_alloc | apply pw_below_drewN | apply below_drew1 | refine below_set ?_ GE353.out | refine below_set ?_ GE365.out | refine below_set ?_ GE375.out | refine below_set ?_ GE392.out) | exact HB.out)) hb)
             have n5_ := Aside0.mk (hbox)
             have n6_ := Aside0.mk ((by rw [hg]; exact (below_size (by repeat (first | (with_reducible first | exact HB.out | apply below_alloc | apply pw_below_drewN | apply below_drew1 | refine below_set ?_ GE353.out | refine below_set ?_ GE365.out | refine below_set ?_ GE375.out | refine below_set ?_ GE392.out) | exact HB.out))) : w.heap.size ≤ gb418))
             have n7_ := Aside0.mk ((by rw [hg]; exact (below_size (by repeat (first | (with_reducible first | exact HB.out | apply below_alloc | apply pw_below_drewN | apply below_drew1 | refine below_set ?_ GE353.out | refine below_set ?_ GE365.out | refine below_set ?_ GE375.out | refine below_set ?_ GE392.out) | exact HB.out))) : w.heap.size ≤ gb418))
             have n8_ := law4B.neL BK353 hg
             have n9_ := law4B.neG BK353 hg
             have n10_ := law4B.neL BK365 hg
             have n11_ := law4B.neG BK365 hg
             have n12_ := law4B.neL BK375 hg
             have n13_ := law4B.neG BK375 hg
             have n14_ := law4B.neL BK392 hg
             have n15_ := law4B.neG BK392 hg
             clear BK353
             clear BK365
             clear BK375
             clear BK392
             clear HB
             have BK353 := n0_
             have BK365 := n1_
             have BK375 := n2_
             have BK392 := n3_
             have HB := n4_
             have BK418 := n5_
             have GW418 := n6_
             have GE418 := n7_
             have NB353_418 := n8_
             have NB418_353 := n9_
             have NB365_418 := n10_
             have NB418_365 := n11_
             have NB375_418 := n12_
             have NB418_375 := n13_
             have NB392_418 := n14_
             have NB418_392 := n15_
             clear n0_ n1_ n2_ n3_ n4_ n5_ n6_ n7_ n8_ n9_ n10_ n11_ n12_ n13_ n14_ n15_
             clear hb hbox hg
             refine hK.out _ _ ⟨(blk_cell BK375.out 0).trans rfl, (blk_cell BK375.out 1).trans rfl, (blk_cell BK375.out 2).trans rfl, (blk_cell BK375.out 3).trans rfl, (blk_cell BK375.out 4).trans rfl, (blk_cell BK375.out 5).trans rfl, (blk_cell BK375.out 6).trans rfl, (blk_cell BK375.out 7).trans rfl, (blk_cell BK392.out 0).trans rfl, (blk_cell BK392.out 1).trans rfl, (blk_cell BK392.out 2).trans rfl, (blk_cell BK392.out 3).trans rfl, (blk_cell BK392.out 4).trans rfl, (blk_cell BK392.out 5).trans rfl, (blk_cell BK392.out 6).trans rfl, (blk_cell BK392.out 7).trans rfl⟩ (fun hHeld => ?_)
             clear hK K
             refine norm_ (a' := ?_) ?_ ?_
             rotate_left
             ·
              show Act.put _ (some 8) _ = _
              simp only [Act.put, List.setIfInBounds_toArray, List.set_cons_zero, List.set_cons_succ, i64_w, i32_w]
              rfl
             refine one_ (i := 2) (N := some 66) #[T, T, T, F, F, F, F, F, T, F, F] rfl rfl (one_of HT_.out (by kernel_rfl)) (by decide) (fun K hK => ?_)
             refine goes_ Try.func13 (by kernel_rfl) rfl #[.agg #[.int .u32 t384, .int .u32 t385, .int .u32 t386, .int .u32 t387, .int .u32 t388, .int .u32 t389, .int .u32 t390, .int .u32 t391]] (by rfl) rfl rfl (by (try simp only [List.map_toArray, List.map_cons, List.map_nil]); first | done | rfl | (simp only [List.length_drop, List.length_take]; rfl)) ?_
             with_reducible refine (offertoryref09_Neg.calls t384 t385 t386 t387 t388 t389 t390 t391 t393 t394 t395 t396 t397 t398 t399 t400 _ A40.out).mono ?_
             rintro e w104 ⟨rfl, hb⟩
             refine ⟨_, rfl, ?_⟩
             have n0_ := law4B.keepB BK353 hb
             have n1_ := law4B.keepB BK365 hb
             have n2_ := law4B.keepB BK375 hb
             have n3_ := law4B.keepB BK392 hb
             have n4_ := law4B.keepB BK418 hb
             have n5_ := Aside0.mk (below_step (by repeat (first | (with_reducible first | exact HB.out | apply below_alloc | apply pw_below_drewN | apply below_drew1 | refine below_set ?_ GE353.out | refine below_set ?_ GE365.out | refine below_set ?_ GE375.out | refine below_set ?_ GE392.out | refine below_set ?_ GE418.out) | exact HB.out)) hb)
             clear BK353
             clear BK365
             clear BK375
             clear BK392
             clear BK418
             clear HB
             have BK353 := n0_
             have BK365 := n1_
             have BK375 := n2_
             have BK392 := n3_
             have BK418 := n4_
             have HB := n5_
             clear n0_ n1_ n2_ n3_ n4_ n5_
             (try clear hb)
             (try clear hb2)
             (try clear hk)
             (try clear hi)
             refine hK.out _ _ ⟨(blk_cell BK375.out 0).trans rfl, (blk_cell BK375.out 1).trans rfl, (blk_cell BK375.out 2).trans rfl, (blk_cell BK375.out 3).trans rfl, (blk_cell BK375.out 4).trans rfl, (blk_cell BK375.out 5).trans rfl, (blk_cell BK375.out 6).trans rfl, (blk_cell BK375.out 7).trans rfl, (blk_cell BK392.out 0).trans rfl, (blk_cell BK392.out 1).trans rfl, (blk_cell BK392.out 2).trans rfl, (blk_cell BK392.out 3).trans rfl, (blk_cell BK392.out 4).trans rfl, (blk_cell BK392.out 5).trans rfl, (blk_cell BK392.out 6).trans rfl, (blk_cell BK392.out 7).trans rfl⟩ (fun hHeld => ?_)
             clear hK K
             refine norm_ (a' := ?_) ?_ ?_
             rotate_left
             ·
              show Act.put _ (some 66) _ = _
              simp only [Act.put, List.setIfInBounds_toArray, List.set_cons_zero, List.set_cons_succ, i64_w, i32_w]
              rfl
             refine one_ (i := 3) (N := some 67) #[T, T, T, T, F, F, F, F, T, F, F] rfl rfl (one_of HT_.out (by kernel_rfl)) (by decide) (fun K hK => ?_)
             refine goes_ Try.func16 (by kernel_rfl) rfl #[.agg #[.int .u32 x376000_14, .int .u32 x376001_14, .int .u32 x376002_14, .int .u32 x376003_14, .int .u32 x376004_14, .int .u32 x376005_14, .int .u32 x376006_14, .int .u32 x376007_14], .agg #[.int .u32 t393, .int .u32 t394, .int .u32 t395, .int .u32 t396, .int .u32 t397, .int .u32 t398, .int .u32 t399, .int .u32 t400]] (by rfl) rfl rfl (by (try simp only [List.map_toArray, List.map_cons, List.map_nil]); first | done | rfl | (simp only [List.length_drop, List.length_take]; rfl)) ?_
             with_reducible refine (offertoryref09_Add.calls x376000_14 x376001_14 x376002_14 x376003_14 x376004_14 x376005_14 x376006_14 x376007_14 t393 t394 t395 t396 t397 t398 t399 t400 t401 t402 t403 t404 t405 t406 t407 t408 _ A41.out).mono ?_
             rintro e w105 ⟨rfl, hb⟩
             refine ⟨_, rfl, ?_⟩
             have n0_ := law4B.keepB BK353 hb
             have n1_ := law4B.keepB BK365 hb
             have n2_ := law4B.keepB BK375 hb
             have n3_ := law4B.keepB BK392 hb
             have n4_ := law4B.keepB BK418 hb
             have n5_ := Aside0.mk (below_step (by repeat (first | (with_reducible first | exact HB.out | apply below_alloc | apply pw_below_drewN | apply below_drew1 | refine below_set ?_ GE353.out | refine below_set ?_ GE365.out | refine below_set ?_ GE375.out | refine below_set ?_ GE392.out | refine below_set ?_ GE418.out) | exact HB.out)) hb)
             clear BK353
             clear BK365
             clear BK375
             clear BK392
             clear BK418
             clear HB
             have BK353 := n0_
             have BK365 := n1_
             have BK375 := n2_
             have BK392 := n3_
             have BK418 := n4_
             have HB := n5_
             clear n0_ n1_ n2_ n3_ n4_ n5_
             (try clear hb)
             (try clear hb2)
             (try clear hk)
             (try clear hi)
             refine hK.out _ _ ⟨(blk_cell BK375.out 0).trans rfl, (blk_cell BK375.out 1).trans rfl, (blk_cell BK375.out 2).trans rfl, (blk_cell BK375.out 3).trans rfl, (blk_cell BK375.out 4).trans rfl, (blk_cell BK375.out 5).trans rfl, (blk_cell BK375.out 6).trans rfl, (blk_cell BK375.out 7).trans rfl, (blk_cell BK392.out 0).trans rfl, (blk_cell BK392.out 1).trans rfl, (blk_cell BK392.out 2).trans rfl, (blk_cell BK392.out 3).trans rfl, (blk_cell BK392.out 4).trans rfl, (blk_cell BK392.out 5).trans rfl, (blk_cell BK392.out 6).trans rfl, (blk_cell BK392.out 7).trans rfl⟩ (fun hHeld => ?_)
             clear hK K
             refine norm_ (a' := ?_) ?_ ?_
             rotate_left
             ·
              show Act.put _ (some 67) _ = _
              simp only [Act.put, List.setIfInBounds_toArray, List.set_cons_zero, List.set_cons_succ, i64_w, i32_w]
              rfl
             refine one_ (i := 4) (N := some 68) #[T, T, T, T, T, F, F, F, T, F, F] rfl rfl (one_of HT_.out (by kernel_rfl)) (by decide) (fun K hK => ?_)
             refine goes_ Try.func15 (by kernel_rfl) rfl #[.agg #[.int .u32 t401, .int .u32 t402, .int .u32 t403, .int .u32 t404, .int .u32 t405, .int .u32 t406, .int .u32 t407, .int .u32 t408]] (by rfl) rfl rfl (by (try simp only [List.map_toArray, List.map_cons, List.map_nil]); first | done | rfl | (simp only [List.length_drop, List.length_take]; rfl)) ?_
             with_reducible refine (offertoryref09_Signed.calls t401 t402 t403 t404 t405 t406 t407 t408 t409 t410 t411 t412 t413 t414 t415 t416 false _ A42.out).mono ?_
             rintro e w106 ⟨rfl, hb⟩
             refine ⟨_, rfl, ?_⟩
             have n0_ := law4B.keepB BK353 hb
             have n1_ := law4B.keepB BK365 hb
             have n2_ := law4B.keepB BK375 hb
             have n3_ := law4B.keepB BK392 hb
             have n4_ := law4B.keepB BK418 hb
             have n5_ := Aside0.mk (below_step (by repeat (first | (with_reducible first | exact HB.out | apply below_alloc | apply pw_below_drewN | apply below_drew1 | refine below_set ?_ GE353.out | refine below_set ?_ GE365.out | refine below_set ?_ GE375.out | refine below_set ?_ GE392.out | refine below_set ?_ GE418.out) | exact HB.out)) hb)
             clear BK353
             clear BK365
             clear BK375
             clear BK392
             clear BK418
             clear HB
             have BK353 := n0_
             have BK365 := n1_
             have BK375 := n2_
             have BK392 := n3_
             have BK418 := n4_
             have HB := n5_
             clear n0_ n1_ n2_ n3_ n4_ n5_
             (try clear hb)
             (try clear hb2)
             (try clear hk)
             (try clear hi)
             refine hK.out _ _ ⟨(blk_cell BK375.out 0).trans rfl, (blk_cell BK375.out 1).trans rfl, (blk_cell BK375.out 2).trans rfl, (blk_cell BK375.out 3).trans rfl, (blk_cell BK375.out 4).trans rfl, (blk_cell BK375.out 5).trans rfl, (blk_cell BK375.out 6).trans rfl, (blk_cell BK375.out 7).trans rfl, (blk_cell BK392.out 0).trans rfl, (blk_cell BK392.out 1).trans rfl, (blk_cell BK392.out 2).trans rfl, (blk_cell BK392.out 3).trans rfl, (blk_cell BK392.out 4).trans rfl, (blk_cell BK392.out 5).trans rfl, (blk_cell BK392.out 6).trans rfl, (blk_cell BK392.out 7).trans rfl⟩ (fun hHeld => ?_)
             clear hK K
             refine norm_ (a' := ?_) ?_ ?_
             rotate_left
             ·
              show Act.put _ (some 68) _ = _
              simp only [Act.put, List.setIfInBounds_toArray, List.set_cons_zero, List.set_cons_succ, i64_w, i32_w]
              rfl
             refine pure_ (i := 5) (N := some 63) (v := ?_) (a' := ?_) #[T, T, T, T, T, T, F, F, T, F, F] rfl rfl (any_of HT_.out (by kernel_rfl)) (fun _ _ _ h => h) (Or.inl ⟨by rfl, ?_⟩) ?_ ?_
             rotate_left
             ·
              intro w'
              (try simp only [add_plain] at s0 s1 s2 s3 s4 s5 s6 s7 s8 s9 s10 s11 s12 s13 s14 s15)
              go_simp
              with_reducible rfl
             rotate_left
             ·
              simp only [Act.put, List.setIfInBounds_toArray, List.set_cons_zero, List.set_cons_succ, i64_w, i32_w]
              rfl
             refine pure_ (i := 6) (N := some 69) (v := ?_) (a' := ?_) #[T, T, T, T, T, T, T, F, T, F, F] rfl rfl (any_of HT_.out (by kernel_rfl)) (fun _ _ _ h => h) (Or.inl ⟨by rfl, ?_⟩) ?_ ?_
             rotate_left
             ·
              intro w'
              (try simp only [add_plain] at s0 s1 s2 s3 s4 s5 s6 s7 s8 s9 s10 s11 s12 s13 s14 s15)
              go_simp
              with_reducible rfl
             rotate_left
             ·
              simp only [Act.put, List.setIfInBounds_toArray, List.set_cons_zero, List.set_cons_succ, i64_w, i32_w]
              rfl
             refine pure_ (i := 7) (N := some 70) (v := ?_) (a' := ?_) #[T, T, T, T, T, T, T, T, T, F, F] rfl rfl (any_of HT_.out (by kernel_rfl)) (fun _ _ _ h => h) (Or.inl ⟨by rfl, ?_⟩) ?_ ?_
             rotate_left
             ·
              intro w'
              (try simp only [add_plain] at s0 s1 s2 s3 s4 s5 s6 s7 s8 s9 s10 s11 s12 s13 s14 s15)
              go_simp
              with_reducible rfl
             rotate_left
             ·
              simp only [Act.put, List.setIfInBounds_toArray, List.set_cons_zero, List.set_cons_succ, i64_w, i32_w]
              rfl
             exact norm_ (by simp only [putAll, Act.put, List.setIfInBounds_toArray, List.set_cons_zero, List.set_cons_succ]) (hCont (gb418) _ ⟨hHeld, (by (with_reducible repeat (first | refine blk_drewN ?_ _ | refine blk_drew ?_ | refine blk_alloc ?_ _)); exact BK353.out), (by (with_reducible repeat (first | refine blk_drewN ?_ _ | refine blk_drew ?_ | refine blk_alloc ?_ _)); exact BK365.out), (by (with_reducible repeat (first | refine blk_drewN ?_ _ | refine blk_drew ?_ | refine blk_alloc ?_ _)); exact BK375.out), (by (with_reducible repeat (first | refine blk_drewN ?_ _ | refine blk_drew ?_ | refine blk_alloc ?_ _)); exact BK392.out), (by (with_reducible repeat (first | refine blk_drewN ?_ _ | refine blk_drew ?_ | refine blk_alloc ?_ _)); exact BK418.out), GW418.out, GE418.out, NB353_418.out, NB418_353.out, NB365_418.out, NB418_365.out, NB375_418.out, NB418_375.out, NB392_418.out, NB418_392.out, (by repeat (first | (with_reducible first | exact HB.out | apply below_alloc | apply pw_below_drewN | apply below_drew1 | refine below_set ?_ GE353.out | refine below_set ?_ GE365.out | refine below_set ?_ GE375.out | refine below_set ?_ GE392.out | refine below_set ?_ GE418.out) | exact HB.out))⟩)
           rintro gb418 w107 ⟨hS_, h0_, h1_, h2_, h3_, h4_, h5_, h6_, h7_, h8_, h9_, h10_, h11_, h12_, h13_, h14_, h15_⟩
           have n0_ : Aside0 (w107.heap[gb353]? = some (.cells #[.slice A0_0 l0_0.length c0_0, .int .i64 a0_1, .int .u64 a0_2, .int .u64 a0_3, .int .u64 a0_4, .int .u64 a0_5, .bool false] 36 (0, 0))) := ⟨h0_⟩
           have n1_ : Aside0 (w107.heap[gb365]? = some (.cells #[.int .u32 t357, .int .u32 t358, .int .u32 t359, .int .u32 t360, .int .u32 t361, .int .u32 t362, .int .u32 t363, .int .u32 t364] 41 (0, 0))) := ⟨h1_⟩
           have n2_ : Aside0 (w107.heap[gb375]? = some (.cells #[.int .u32 x376000_14, .int .u32 x376001_14, .int .u32 x376002_14, .int .u32 x376003_14, .int .u32 x376004_14, .int .u32 x376005_14, .int .u32 x376006_14, .int .u32 x376007_14] 41 (0, 0))) := ⟨h2_⟩
           have n3_ : Aside0 (w107.heap[gb392]? = some (.cells #[.int .u32 t384, .int .u32 t385, .int .u32 t386, .int .u32 t387, .int .u32 t388, .int .u32 t389, .int .u32 t390, .int .u32 t391] 41 (0, 0))) := ⟨h3_⟩
           have n4_ : Aside0 (w107.heap[gb418]? = some (.cells #[.int .u32 0, .int .u32 0, .int .u32 0, .int .u32 0, .int .u32 0, .int .u32 0, .int .u32 0, .int .u32 0] 41 (0, 0))) := ⟨h4_⟩
           have n5_ : Aside0 (w.heap.size ≤ gb418) := ⟨h5_⟩
           have n6_ : Aside0 (w.heap.size ≤ gb418) := ⟨h6_⟩
           have n7_ : Aside0 (gb353 ≠ gb418) := ⟨h7_⟩
           have n8_ : Aside0 (gb418 ≠ gb353) := ⟨h8_⟩
           have n9_ : Aside0 (gb365 ≠ gb418) := ⟨h9_⟩
           have n10_ : Aside0 (gb418 ≠ gb365) := ⟨h10_⟩
           have n11_ : Aside0 (gb375 ≠ gb418) := ⟨h11_⟩
           have n12_ : Aside0 (gb418 ≠ gb375) := ⟨h12_⟩
           have n13_ : Aside0 (gb392 ≠ gb418) := ⟨h13_⟩
           have n14_ : Aside0 (gb418 ≠ gb392) := ⟨h14_⟩
           have n15_ : Aside0 (Below w.heap.size w w107) := ⟨h15_⟩
           clear BK353
           clear BK365
           clear BK375
           clear BK392
           clear HB
           clear h0_ h1_ h2_ h3_ h4_ h5_ h6_ h7_ h8_ h9_ h10_ h11_ h12_ h13_ h14_ h15_
           have BK353 := n0_
           have BK365 := n1_
           have BK375 := n2_
           have BK392 := n3_
           have BK418 := n4_
           have GW418 := n5_
           have GE418 := n6_
           have NB353_418 := n7_
           have NB418_353 := n8_
           have NB365_418 := n9_
           have NB418_365 := n10_
           have NB375_418 := n11_
           have NB418_375 := n12_
           have NB392_418 := n13_
           have NB418_392 := n14_
           have HB := n15_
           clear n0_ n1_ n2_ n3_ n4_ n5_ n6_ n7_ n8_ n9_ n10_ n11_ n12_ n13_ n14_ n15_
           have hHeld : w107.cell? ⟨gb375, 0, none⟩ = some (.int .u32 x376000_14) ∧ w107.cell? ⟨gb375, 1, none⟩ = some (.int .u32 x376001_14) ∧ w107.cell? ⟨gb375, 2, none⟩ = some (.int .u32 x376002_14) ∧ w107.cell? ⟨gb375, 3, none⟩ = some (.int .u32 x376003_14) ∧ w107.cell? ⟨gb375, 4, none⟩ = some (.int .u32 x376004_14) ∧ w107.cell? ⟨gb375, 5, none⟩ = some (.int .u32 x376005_14) ∧ w107.cell? ⟨gb375, 6, none⟩ = some (.int .u32 x376006_14) ∧ w107.cell? ⟨gb375, 7, none⟩ = some (.int .u32 x376007_14) ∧ w107.cell? ⟨gb392, 0, none⟩ = some (.int .u32 t384) ∧ w107.cell? ⟨gb392, 1, none⟩ = some (.int .u32 t385) ∧ w107.cell? ⟨gb392, 2, none⟩ = some (.int .u32 t386) ∧ w107.cell? ⟨gb392, 3, none⟩ = some (.int .u32 t387) ∧ w107.cell? ⟨gb392, 4, none⟩ = some (.int .u32 t388) ∧ w107.cell? ⟨gb392, 5, none⟩ = some (.int .u32 t389) ∧ w107.cell? ⟨gb392, 6, none⟩ = some (.int .u32 t390) ∧ w107.cell? ⟨gb392, 7, none⟩ = some (.int .u32 t391) := hS_
           refine norm_ (a' := ?_) ?_ ?_
           rotate_left
           ·
            simp only [putAll, Act.put, List.setIfInBounds_toArray, List.set_cons_zero, List.set_cons_succ]
            rfl
           refine one_ (i := 9) (N := none) #[T, T, T, T, T, T, T, T, T, T, F] rfl rfl (one_of HT_.out (by kernel_rfl)) (by decide) (fun K hK => ?_)
           have hs108 : w107.cell? ⟨gb418, 0, none⟩ = some (.int .u32 0) := (blk_cell BK418.out 0).trans rfl
           have hfs108 := blk_frozen BK418.out 0
           have hns108_0 := NB353_418.out
           have hns108_1 := NB365_418.out
           have hns108_2 := NB375_418.out
           have hns108_3 := NB392_418.out
           have hms108_0 := NB418_353.out
           have hms108_1 := NB418_365.out
           have hms108_2 := NB418_375.out
           have hms108_3 := NB418_392.out
           have hs109 : w107.cell? ⟨gb418, 1, none⟩ = some (.int .u32 0) := (blk_cell BK418.out 1).trans rfl
           have hfs109 := blk_frozen BK418.out 1
           have hns109_0 := NB353_418.out
           have hns109_1 := NB365_418.out
           have hns109_2 := NB375_418.out
           have hns109_3 := NB392_418.out
           have hms109_0 := NB418_353.out
           have hms109_1 := NB418_365.out
           have hms109_2 := NB418_375.out
           have hms109_3 := NB418_392.out
           have hs110 : w107.cell? ⟨gb418, 2, none⟩ = some (.int .u32 0) := (blk_cell BK418.out 2).trans rfl
           have hfs110 := blk_frozen BK418.out 2
           have hns110_0 := NB353_418.out
           have hns110_1 := NB365_418.out
           have hns110_2 := NB375_418.out
           have hns110_3 := NB392_418.out
           have hms110_0 := NB418_353.out
           have hms110_1 := NB418_365.out
           have hms110_2 := NB418_375.out
           have hms110_3 := NB418_392.out
           have hs111 : w107.cell? ⟨gb418, 3, none⟩ = some (.int .u32 0) := (blk_cell BK418.out 3).trans rfl
           have hfs111 := blk_frozen BK418.out 3
           have hns111_0 := NB353_418.out
           have hns111_1 := NB365_418.out
           have hns111_2 := NB375_418.out
           have hns111_3 := NB392_418.out
           have hms111_0 := NB418_353.out
           have hms111_1 := NB418_365.out
           have hms111_2 := NB418_375.out
           have hms111_3 := NB418_392.out
           have hs112 : w107.cell? ⟨gb418, 4, none⟩ = some (.int .u32 0) := (blk_cell BK418.out 4).trans rfl
           have hfs112 := blk_frozen BK418.out 4
           have hns112_0 := NB353_418.out
           have hns112_1 := NB365_418.out
           have hns112_2 := NB375_418.out
           have hns112_3 := NB392_418.out
           have hms112_0 := NB418_353.out
           have hms112_1 := NB418_365.out
           have hms112_2 := NB418_375.out
           have hms112_3 := NB418_392.out
           have hs113 : w107.cell? ⟨gb418, 5, none⟩ = some (.int .u32 0) := (blk_cell BK418.out 5).trans rfl
           have hfs113 := blk_frozen BK418.out 5
           have hns113_0 := NB353_418.out
           have hns113_1 := NB365_418.out
           have hns113_2 := NB375_418.out
           have hns113_3 := NB392_418.out
           have hms113_0 := NB418_353.out
           have hms113_1 := NB418_365.out
           have hms113_2 := NB418_375.out
           have hms113_3 := NB418_392.out
           have hs114 : w107.cell? ⟨gb418, 6, none⟩ = some (.int .u32 0) := (blk_cell BK418.out 6).trans rfl
           have hfs114 := blk_frozen BK418.out 6
           have hns114_0 := NB353_418.out
           have hns114_1 := NB365_418.out
           have hns114_2 := NB375_418.out
           have hns114_3 := NB392_418.out
           have hms114_0 := NB418_353.out
           have hms114_1 := NB418_365.out
           have hms114_2 := NB418_375.out
           have hms114_3 := NB418_392.out
           have hs115 : w107.cell? ⟨gb418, 7, none⟩ = some (.int .u32 0) := (blk_cell BK418.out 7).trans rfl
           have hfs115 := blk_frozen BK418.out 7
           have hns115_0 := NB353_418.out
           have hns115_1 := NB365_418.out
           have hns115_2 := NB375_418.out
           have hns115_3 := NB392_418.out
           have hms115_0 := NB418_353.out
           have hms115_1 := NB418_365.out
           have hms115_2 := NB418_375.out
           have hms115_3 := NB418_392.out
           refine skip_ (w1 := ?_) (by rfl) rfl ?_ ?_
           rotate_left
           ·
            go_simp
            rfl
           refine hK.out _ _ ⟨((cell_far (p := ⟨gb418, _, none⟩) NB375_418.out _).trans (((cell_far (p := ⟨gb418, _, none⟩) NB375_418.out _).trans (((cell_far (p := ⟨gb418, _, none⟩) NB375_418.out _).trans (((cell_far (p := ⟨gb418, _, none⟩) NB375_418.out _).trans (((cell_far (p := ⟨gb418, _, none⟩) NB375_418.out _).trans (((cell_far (p := ⟨gb418, _, none⟩) NB375_418.out _).trans (((cell_far (p := ⟨gb418, _, none⟩) NB375_418.out _).trans (((cell_far (p := ⟨gb418, _, none⟩) NB375_418.out _).trans (hHeld.1)))))))))))))))), ((cell_far (p := ⟨gb418, _, none⟩) NB375_418.out _).trans (((cell_far (p := ⟨gb418, _, none⟩) NB375_418.out _).trans (((cell_far (p := ⟨gb418, _, none⟩) NB375_418.out _).trans (((cell_far (p := ⟨gb418, _, none⟩) NB375_418.out _).trans (((cell_far (p := ⟨gb418, _, none⟩) NB375_418.out _).trans (((cell_far (p := ⟨gb418, _, none⟩) NB375_418.out _).trans (((cell_far (p := ⟨gb418, _, none⟩) NB375_418.out _).trans (((cell_far (p := ⟨gb418, _, none⟩) NB375_418.out _).trans (hHeld.2.1)))))))))))))))), ((cell_far (p := ⟨gb418, _, none⟩) NB375_418.out _).trans (((cell_far (p := ⟨gb418, _, none⟩) NB375_418.out _).trans (((cell_far (p := ⟨gb418, _, none⟩) NB375_418.out _).trans (((cell_far (p := ⟨gb418, _, none⟩) NB375_418.out _).trans (((cell_far (p := ⟨gb418, _, none⟩) NB375_418.out _).trans (((cell_far (p := ⟨gb418, _, none⟩) NB375_418.out _).trans (((cell_far (p := ⟨gb418, _, none⟩) NB375_418.out _).trans (((cell_far (p := ⟨gb418, _, none⟩) NB375_418.out _).trans (hHeld.2.2.1)))))))))))))))), ((cell_far (p := ⟨gb418, _, none⟩) NB375_418.out _).trans (((cell_far (p := ⟨gb418, _, none⟩) NB375_418.out _).trans (((cell_far (p := ⟨gb418, _, none⟩) NB375_418.out _).trans (((cell_far (p := ⟨gb418, _, none⟩) NB375_418.out _).trans (((cell_far (p := ⟨gb418, _, none⟩) NB375_418.out _).trans (((cell_far (p := ⟨gb418, _, none⟩) NB375_418.out _).trans (((cell_far (p := ⟨gb418, _, none⟩) NB375_418.out _).trans (((cell_far (p := ⟨gb418, _, none⟩) NB375_418.out _).trans (hHeld.2.2.2.1)))))))))))))))), ((cell_far (p := ⟨gb418, _, none⟩) NB375_418.out _).trans (((cell_far (p := ⟨gb418, _, none⟩) NB375_418.out _).trans (((cell_far (p := ⟨gb418, _, none⟩) NB375_418.out _).trans (((cell_far (p := ⟨gb418, _, none⟩) NB375_418.out _).trans (((cell_far (p := ⟨gb418, _, none⟩) NB375_418.out _).trans (((cell_far (p := ⟨gb418, _, none⟩) NB375_418.out _).trans (((cell_far (p := ⟨gb418, _, none⟩) NB375_418.out _).trans (((cell_far (p := ⟨gb418, _, none⟩) NB375_418.out _).trans (hHeld.2.2.2.2.1)))))))))))))))), ((cell_far (p := ⟨gb418, _, none⟩) NB375_418.out _).trans (((cell_far (p := ⟨gb418, _, none⟩) NB375_418.out _).trans (((cell_far (p := ⟨gb418, _, none⟩) NB375_418.out _).trans (((cell_far (p := ⟨gb418, _, none⟩) NB375_418.out _).trans (((cell_far (p := ⟨gb418, _, none⟩) NB375_418.out _).trans (((cell_far (p := ⟨gb418, _, none⟩) NB375_418.out _).trans (((cell_far (p := ⟨gb418, _, none⟩) NB375_418.out _).trans (((cell_far (p := ⟨gb418, _, none⟩) NB375_418.out _).trans (hHeld.2.2.2.2.2.1)))))))))))))))), ((cell_far (p := ⟨gb418, _, none⟩) NB375_418.out _).trans (((cell_far (p := ⟨gb418, _, none⟩) NB375_418.out _).trans (((cell_far (p := ⟨gb418, _, none⟩) NB375_418.out _).trans (((cell_far (p := ⟨gb418, _, none⟩) NB375_418.out _).trans (((cell_far (p := ⟨gb418, _, none⟩) NB375_418.out _).trans (((cell_far (p := ⟨gb418, _, none⟩) NB375_418.out _).trans (((cell_far (p := ⟨gb418, _, none⟩) NB375_418.out _).trans (((cell_far (p := ⟨gb418, _, none⟩) NB375_418.out _).trans (hHeld.2.2.2.2.2.2.1)))))))))))))))), ((cell_far (p := ⟨gb418, _, none⟩) NB375_418.out _).trans (((cell_far (p := ⟨gb418, _, none⟩) NB375_418.out _).trans (((cell_far (p := ⟨gb418, _, none⟩) NB375_418.out _).trans (((cell_far (p := ⟨gb418, _, none⟩) NB375_418.out _).trans (((cell_far (p := ⟨gb418, _, none⟩) NB375_418.out _).trans (((cell_far (p := ⟨gb418, _, none⟩) NB375_418.out _).trans (((cell_far (p := ⟨gb418, _, none⟩) NB375_418.out _).trans (((cell_far (p := ⟨gb418, _, none⟩) NB375_418.out _).trans (hHeld.2.2.2.2.2.2.2.1)))))))))))))))), ((cell_far (p := ⟨gb418, _, none⟩) NB392_418.out _).trans (((cell_far (p := ⟨gb418, _, none⟩) NB392_418.out _).trans (((cell_far (p := ⟨gb418, _, none⟩) NB392_418.out _).trans (((cell_far (p := ⟨gb418, _, none⟩) NB392_418.out _).trans (((cell_far (p := ⟨gb418, _, none⟩) NB392_418.out _).trans (((cell_far (p := ⟨gb418, _, none⟩) NB392_418.out _).trans (((cell_far (p := ⟨gb418, _, none⟩) NB392_418.out _).trans (((cell_far (p := ⟨gb418, _, none⟩) NB392_418.out _).trans (hHeld.2.2.2.2.2.2.2.2.1)))))))))))))))), ((cell_far (p := ⟨gb418, _, none⟩) NB392_418.out _).trans (((cell_far (p := ⟨gb418, _, none⟩) NB392_418.out _).trans (((cell_far (p := ⟨gb418, _, none⟩) NB392_418.out _).trans (((cell_far (p := ⟨gb418, _, none⟩) NB392_418.out _).trans (((cell_far (p := ⟨gb418, _, none⟩) NB392_418.out _).trans (((cell_far (p := ⟨gb418, _, none⟩) NB392_418.out _).trans (((cell_far (p := ⟨gb418, _, none⟩) NB392_418.out _).trans (((cell_far (p := ⟨gb418, _, none⟩) NB392_418.out _).trans (hHeld.2.2.2.2.2.2.2.2.2.1)))))))))))))))), ((cell_far (p := ⟨gb418, _, none⟩) NB392_418.out _).trans (((cell_far (p := ⟨gb418, _, none⟩) NB392_418.out _).trans (((cell_far (p := ⟨gb418, _, none⟩) NB392_418.out _).trans (((cell_far (p := ⟨gb418, _, none⟩) NB392_418.out _).trans (((cell_far (p := ⟨gb418, _, none⟩) NB392_418.out _).trans (((cell_far (p := ⟨gb418, _, none⟩) NB392_418.out _).trans (((cell_far (p := ⟨gb418, _, none⟩) NB392_418.out _).trans (((cell_far (p := ⟨gb418, _, none⟩) NB392_418.out _).trans (hHeld.2.2.2.2.2.2.2.2.2.2.1)))))))))))))))), ((cell_far (p := ⟨gb418, _, none⟩) NB392_418.out _).trans (((cell_far (p := ⟨gb418, _, none⟩) NB392_418.out _).trans (((cell_far (p := ⟨gb418, _, none⟩) NB392_418.out _).trans (((cell_far (p := ⟨gb418, _, none⟩) NB392_418.out _).trans (((cell_far (p := ⟨gb418, _, none⟩) NB392_418.out _).trans (((cell_far (p := ⟨gb418, _, none⟩) NB392_418.out _).trans (((cell_far (p := ⟨gb418, _, none⟩) NB392_418.out _).trans (((cell_far (p := ⟨gb418, _, none⟩) NB392_418.out _).trans (hHeld.2.2.2.2.2.2.2.2.2.2.2.1)))))))))))))))), ((cell_far (p := ⟨gb418, _, none⟩) NB392_418.out _).trans (((cell_far (p := ⟨gb418, _, none⟩) NB392_418.out _).trans (((cell_far (p := ⟨gb418, _, none⟩) NB392_418.out _).trans (((cell_far (p := ⟨gb418, _, none⟩) NB392_418.out _).trans (((cell_far (p := ⟨gb418, _, none⟩) NB392_418.out _).trans (((cell_far (p := ⟨gb418, _, none⟩) NB392_418.out _).trans (((cell_far (p := ⟨gb418, _, none⟩) NB392_418.out _).trans (((cell_far (p := ⟨gb418, _, none⟩) NB392_418.out _).trans (hHeld.2.2.2.2.2.2.2.2.2.2.2.2.1)))))))))))))))), ((cell_far (p := ⟨gb418, _, none⟩) NB392_418.out _).trans (((cell_far (p := ⟨gb418, _, none⟩) NB392_418.out _).trans (((cell_far (p := ⟨gb418, _, none⟩) NB392_418.out _).trans (((cell_far (p := ⟨gb418, _, none⟩) NB392_418.out _).trans (((cell_far (p := ⟨gb418, _, none⟩) NB392_418.out _).trans (((cell_far (p := ⟨gb418, _, none⟩) NB392_418.out _).trans (((cell_far (p := ⟨gb418, _, none⟩) NB392_418.out _).trans (((cell_far (p := ⟨gb418, _, none⟩) NB392_418.out _).trans (hHeld.2.2.2.2.2.2.2.2.2.2.2.2.2.1)))))))))))))))), ((cell_far (p := ⟨gb418, _, none⟩) NB392_418.out _).trans (((cell_far (p := ⟨gb418, _, none⟩) NB392_418.out _).trans (((cell_far (p := ⟨gb418, _, none⟩) NB392_418.out _).trans (((cell_far (p := ⟨gb418, _, none⟩) NB392_418.out _).trans (((cell_far (p := ⟨gb418, _, none⟩) NB392_418.out _).trans (((cell_far (p := ⟨gb418, _, none⟩) NB392_418.out _).trans (((cell_far (p := ⟨gb418, _, none⟩) NB392_418.out _).trans (((cell_far (p := ⟨gb418, _, none⟩) NB392_418.out _).trans (hHeld.2.2.2.2.2.2.2.2.2.2.2.2.2.2.1)))))))))))))))), ((cell_far (p := ⟨gb418, _, none⟩) NB392_418.out _).trans (((cell_far (p := ⟨gb418, _, none⟩) NB392_418.out _).trans (((cell_far (p := ⟨gb418, _, none⟩) NB392_418.out _).trans (((cell_far (p := ⟨gb418, _, none⟩) NB392_418.out _).trans (((cell_far (p := ⟨gb418, _, none⟩) NB392_418.out _).trans (((cell_far (p := ⟨gb418, _, none⟩) NB392_418.out _).trans (((cell_far (p := ⟨gb418, _, none⟩) NB392_418.out _).trans (((cell_far (p := ⟨gb418, _, none⟩) NB392_418.out _).trans (hHeld.2.2.2.2.2.2.2.2.2.2.2.2.2.2.2))))))))))))))))⟩ (fun hHeld => ?_)
           clear hK K
           refine pure_ (i := 10) (N := some 9) (v := ?_) (a' := ?_) #[T, T, T, T, T, T, T, T, T, T, T] rfl rfl (any_of HT_.out (by kernel_rfl)) (fun _ _ _ h => h) (Or.inl ⟨by rfl, ?_⟩) ?_ ?_
           rotate_left
           ·
            intro w'
            (try simp only [add_plain] at s0 s1 s2 s3 s4 s5 s6 s7 s8 s9 s10 s11 s12 s13 s14 s15)
            go_simp
            with_reducible rfl
           rotate_left
           ·
            simp only [Act.put, List.setIfInBounds_toArray, List.set_cons_zero, List.set_cons_succ, i64_w, i32_w]
            rfl
           refine done_ (done_of HT_.out (by kernel_rfl)) ?_
           have hnb116 := NB375_353.out
           have hnc116 := NB353_375.out
           have hnb117 := NB375_418.out
           have hnc117 := NB418_375.out
           have hcz118_0 : w107.cell? ⟨gb375, 0, none⟩ = some (.int .u32 x376000_14) := (blk_cell BK375.out 0).trans rfl
           have hcz118_1 : w107.cell? ⟨gb375, 1, none⟩ = some (.int .u32 x376001_14) := (blk_cell BK375.out 1).trans rfl
           have hcz118_2 : w107.cell? ⟨gb375, 2, none⟩ = some (.int .u32 x376002_14) := (blk_cell BK375.out 2).trans rfl
           have hcz118_3 : w107.cell? ⟨gb375, 3, none⟩ = some (.int .u32 x376003_14) := (blk_cell BK375.out 3).trans rfl
           have hcz118_4 : w107.cell? ⟨gb375, 4, none⟩ = some (.int .u32 x376004_14) := (blk_cell BK375.out 4).trans rfl
           have hcz118_5 : w107.cell? ⟨gb375, 5, none⟩ = some (.int .u32 x376005_14) := (blk_cell BK375.out 5).trans rfl
           have hcz118_6 : w107.cell? ⟨gb375, 6, none⟩ = some (.int .u32 x376006_14) := (blk_cell BK375.out 6).trans rfl
           have hcz118_7 : w107.cell? ⟨gb375, 7, none⟩ = some (.int .u32 x376007_14) := (blk_cell BK375.out 7).trans rfl
           have hfz118_0 := blk_frozen BK375.out 0
           have hfz118_1 := blk_frozen BK375.out 1
           have hfz118_2 := blk_frozen BK375.out 2
           have hfz118_3 := blk_frozen BK375.out 3
           have hfz118_4 := blk_frozen BK375.out 4
           have hfz118_5 := blk_frozen BK375.out 5
           have hfz118_6 := blk_frozen BK375.out 6
           have hfz118_7 := blk_frozen BK375.out 7
           have hnb119 := NB392_418.out
           have hnc119 := NB418_392.out
           have hcz120_0 : w107.cell? ⟨gb392, 0, none⟩ = some (.int .u32 t384) := (blk_cell BK392.out 0).trans rfl
           have hcz120_1 : w107.cell? ⟨gb392, 1, none⟩ = some (.int .u32 t385) := (blk_cell BK392.out 1).trans rfl
           have hcz120_2 : w107.cell? ⟨gb392, 2, none⟩ = some (.int .u32 t386) := (blk_cell BK392.out 2).trans rfl
           have hcz120_3 : w107.cell? ⟨gb392, 3, none⟩ = some (.int .u32 t387) := (blk_cell BK392.out 3).trans rfl
           have hcz120_4 : w107.cell? ⟨gb392, 4, none⟩ = some (.int .u32 t388) := (blk_cell BK392.out 4).trans rfl
           have hcz120_5 : w107.cell? ⟨gb392, 5, none⟩ = some (.int .u32 t389) := (blk_cell BK392.out 5).trans rfl
           have hcz120_6 : w107.cell? ⟨gb392, 6, none⟩ = some (.int .u32 t390) := (blk_cell BK392.out 6).trans rfl
           have hcz120_7 : w107.cell? ⟨gb392, 7, none⟩ = some (.int .u32 t391) := (blk_cell BK392.out 7).trans rfl
           have hfz120_0 := blk_frozen BK392.out 0
           have hfz120_1 := blk_frozen BK392.out 1
           have hfz120_2 := blk_frozen BK392.out 2
           have hfz120_3 := blk_frozen BK392.out 3
           have hfz120_4 := blk_frozen BK392.out 4
           have hfz120_5 := blk_frozen BK392.out 5
           have hfz120_6 := blk_frozen BK392.out 6
           have hfz120_7 := blk_frozen BK392.out 7
           try go_wp2_with (first | ((with_reducible refine gate_callee (f := 16) rfl ?_); refine goesL_ (some 74) rfl rfl Try.func16 (by kernel_rfl) rfl #[.agg #[.int .u32 x376000_14, .int .u32 x376001_14, .int .u32 x376002_14, .int .u32 x376003_14, .int .u32 x376004_14, .int .u32 x376005_14, .int .u32 x376006_14, .int .u32 x376007_14], .agg #[.int .u32 t384, .int .u32 t385, .int .u32 t386, .int .u32 t387, .int .u32 t388, .int .u32 t389, .int .u32 t390, .int .u32 t391]] rfl (by (try simp only [List.map_toArray, List.map_cons, List.map_nil]); first | done | rfl | (simp only [List.length_drop, List.length_take]; rfl)) ?_; (with_reducible refine (offertoryref09_Add.calls x376000_14 x376001_14 x376002_14 x376003_14 x376004_14 x376005_14 x376006_14 x376007_14 t384 t385 t386 t387 t388 t389 t390 t391 t419 t420 t421 t422 t423 t424 t425 t426 _ A43.out).mono ?_); rintro e w121 ⟨rfl, hb⟩; refine ⟨_, rfl, ?_⟩; have n0_ := Aside0.mk (blk_below (g := gb353) (o := .cells #[.slice A0_0 l0_0.length c0_0, .int .i64 a0_1, .int .u64 a0_2, .int .u64 a0_3, .int .u64 a0_4, .int .u64 a0_5, .bool false] 36 (0, 0)) (by (repeat (first | (with_reducible first | refine blk_drewN ?_ _ | refine blk_drew ?_ | refine blk_alloc ?_ _) | refine blk_far ?_ NB353_418.out _)); (with_reducible repeat (first | refine blk_drewN ?_ _ | refine blk_drew ?_ | refine blk_alloc ?_ _)); exact BK353.out) hb); have n1_ := Aside0.mk (blk_below (g := gb365) (o := .cells #[.int .u32 t357, .int .u32 t358, .int .u32 t359, .int .u32 t360, .int .u32 t361, .int .u32 t362, .int .u32 t363, .int .u32 t364] 41 (0, 0)) (by (repeat (first | (with_reducible first | refine blk_drewN ?_ _ | refine blk_drew ?_ | refine blk_alloc ?_ _) | refine blk_far ?_ NB365_418.out _)); (with_reducible repeat (first | refine blk_drewN ?_ _ | refine blk_drew ?_ | refine blk_alloc ?_ _)); exact BK365.out) hb); have n2_ := Aside0.mk (blk_below (g := gb375) (o := .cells #[.int .u32 x376000_14, .int .u32 x376001_14, .int .u32 x376002_14, .int .u32 x376003_14, .int .u32 x376004_14, .int .u32 x376005_14, .int .u32 x376006_14, .int .u32 x376007_14] 41 (0, 0)) (by (repeat (first | (with_reducible first | refine blk_drewN ?_ _ | refine blk_drew ?_ | refine blk_alloc ?_ _) | refine blk_far ?_ NB375_418.out _)); (with_reducible repeat (first | refine blk_drewN ?_ _ | refine blk_drew ?_ | refine blk_alloc ?_ _)); exact BK375.out) hb); have n3_ := Aside0.mk (blk_below (g := gb392) (o := .cells #[.int .u32 t384, .int .u32 t385, .int .u32 t386, .int .u32 t387, .int .u32 t388, .int .u32 t389, .int .u32 t390, .int .u32 t391] 41 (0, 0)) (by (repeat (first | (with_reducible first | refine blk_drewN ?_ _ | refine blk_drew ?_ | refine blk_alloc ?_ _) | refine blk_far ?_ NB392_418.out _)); (with_reducible repeat (first | refine blk_drewN ?_ _ | refine blk_drew ?_ | refine blk_alloc ?_ _)); exact BK392.out) hb); have n4_ := Aside0.mk (blk_below (g := gb418) (o := .cells #[.int .u32 t409, .int .u32 t410, .int .u32 t411, .int .u32 t412, .int .u32 t413, .int .u32 t414, .int .u32 t415, .int .u32 t416] 41 (0, 0)) (by (with_reducible repeat (first | refine blk_drewN ?_ _ | refine blk_drew ?_ | refine blk_alloc ?_ _)); refine blk_put (cs := #[.int .u32 t409, .int .u32 t410, .int .u32 t411, .int .u32 t412, .int .u32 t413, .int .u32 t414, .int .u32 t415, .int .u32 0]) ?_ 7 _ rfl; (with_reducible repeat (first | refine blk_drewN ?_ _ | refine blk_drew ?_ | refine blk_alloc ?_ _)); refine blk_put (cs := #[.int .u32 t409, .int .u32 t410, .int .u32 t411, .int .u32 t412, .int .u32 t413, .int .u32 t414, .int .u32 0, .int .u32 0]) ?_ 6 _ rfl; (with_reducible repeat (first | refine blk_drewN ?_ _ | refine blk_drew ?_ | refine blk_alloc ?_ _)); refine blk_put (cs := #[.int .u32 t409, .int .u32 t410, .int .u32 t411, .int .u32 t412, .int .u32 t413, .int .u32 0, .int .u32 0, .int .u32 0]) ?_ 5 _ rfl; (with_reducible repeat (first | refine blk_drewN ?_ _ | refine blk_drew ?_ | refine blk_alloc ?_ _)); refine blk_put (cs := #[.int .u32 t409, .int .u32 t410, .int .u32 t411, .int .u32 t412, .int .u32 0, .int .u32 0, .int .u32 0, .int .u32 0]) ?_ 4 _ rfl; (with_reducible repeat (first | refine blk_drewN ?_ _ | refine blk_drew ?_ | refine blk_alloc ?_ _)); refine blk_put (cs := #[.int .u32 t409, .int .u32 t410, .int .u32 t411, .int .u32 0, .int .u32 0, .int .u32 0, .int .u32 0, .int .u32 0]) ?_ 3 _ rfl; (with_reducible repeat (first | refine blk_drewN ?_ _ | refine blk_drew ?_ | refine blk_alloc ?_ _)); refine blk_put (cs := #[.int .u32 t409, .int .u32 t410, .int .u32 0, .int .u32 0, .int .u32 0, .int .u32 0, .int .u32 0, .int .u32 0]) ?_ 2 _ rfl; (with_reducible repeat (first | refine blk_drewN ?_ _ | refine blk_drew ?_ | refine blk_alloc ?_ _)); refine blk_put (cs := #[.int .u32 t409, .int .u32 0, .int .u32 0, .int .u32 0, .int .u32 0, .int .u32 0, .int .u32 0, .int .u32 0]) ?_ 1 _ rfl; (with_reducible repeat (first | refine blk_drewN ?_ _ | refine blk_drew ?_ | refine blk_alloc ?_ _)); refine blk_put (cs := #[.int .u32 0, .int .u32 0, .int .u32 0, .int .u32 0, .int .u32 0, .int .u32 0, .int .u32 0, .int .u32 0]) ?_ 0 _ rfl; (with_reducible repeat (first | refine blk_drewN ?_ _ | refine blk_drew ?_ | refine blk_alloc ?_ _)); exact BK418.out) hb); have n5_ := Aside0.mk (below_step (by repeat (first | (with_reducible first | exact HB.out | apply below_alloc | apply pw_below_drewN | apply below_drew1 | refine below_set ?_ GE353.out | refine below_set ?_ GE365.out | refine below_set ?_ GE375.out | refine below_set ?_ GE392.out | refine below_set ?_ GE418.out) | exact HB.out)) hb); clear BK353; clear BK365; clear BK375; clear BK392; clear BK418; clear HB; have BK353 := n0_; have BK365 := n1_; have BK375 := n2_; have BK392 := n3_; have BK418 := n4_; have HB := n5_; clear n0_ n1_ n2_ n3_ n4_ n5_; (try clear hb); (try clear hb2); (try clear hk); (try clear hi)) | ((with_reducible refine gate_callee (f := 15) rfl ?_); refine goesL_ (some 75) rfl rfl Try.func15 (by kernel_rfl) rfl #[.agg #[.int .u32 t419, .int .u32 t420, .int .u32 t421, .int .u32 t422, .int .u32 t423, .int .u32 t424, .int .u32 t425, .int .u32 t426]] rfl (by (try simp only [List.map_toArray, List.map_cons, List.map_nil]); first | done | rfl | (simp only [List.length_drop, List.length_take]; rfl)) ?_; (with_reducible refine (offertoryref09_Signed.calls t419 t420 t421 t422 t423 t424 t425 t426 t427 t428 t429 t430 t431 t432 t433 t434 t435 _ A44.out).mono ?_); rintro e w122 ⟨rfl, hb⟩; refine ⟨_, rfl, ?_⟩; have n0_ := law4B.keepB BK353 hb; have n1_ := law4B.keepB BK365 hb; have n2_ := law4B.keepB BK375 hb; have n3_ := law4B.keepB BK392 hb; have n4_ := law4B.keepB BK418 hb; have n5_ := Aside0.mk (below_step (by repeat (first | (with_reducible first | exact HB.out | apply below_alloc | apply pw_below_drewN | apply below_drew1 | refine below_set ?_ GE353.out | refine below_set ?_ GE365.out | refine below_set ?_ GE375.out | refine below_set ?_ GE392.out | refine below_set ?_ GE418.out) | exact HB.out)) hb); clear BK353; clear BK365; clear BK375; clear BK392; clear BK418; clear HB; have BK353 := n0_; have BK365 := n1_; have BK375 := n2_; have BK392 := n3_; have BK418 := n4_; have HB := n5_; clear n0_ n1_ n2_ n3_ n4_ n5_; (try clear hb); (try clear hb2); (try clear hk); (try clear hi)) | ((with_reducible refine gate_dst (N := 10) rfl ?_); refine box_event ?hg (N := 10) ?hd (cs := #[.int .u32 0, .int .u32 0, .int .u32 0, .int .u32 0, .int .u32 0, .int .u32 0, .int .u32 0, .int .u32 0]) (t := 41) ?hr ?_; (case hd => rfl); (case hg => rfl); (case hr => first | (go_simp; done) | (go_simp; rfl)); intro gb436 hg w123 hbox hb; have n0_ := law4B.keepB BK353 hb; have n1_ := law4B.keepB BK365 hb; have n2_ := law4B.keepB BK375 hb; have n3_ := law4B.keepB BK392 hb; have n4_ := law4B.keepB BK418 hb; have n5_ := Aside0.mk (below_step (by repeat (first | (with_reducible first | exact HB.out | apply below_alloc | apply pw_below_drewN | apply below_drew1 | refine below_set ?_ GE353.out | refine below_set ?_ GE365.out | refine below_set ?_ GE375.out | refine below_set ?_ GE392.out | refine below_set ?_ GE418.out) | exact HB.out)) hb); have n6_ := Aside0.mk (hbox); have n7_ := Aside0.mk ((by rw [hg]; exact (below_size (by repeat (first | (with_reducible first | exact HB.out | apply below_alloc | apply pw_below_drewN | apply below_drew1 | refine below_set ?_ GE353.out | refine below_set ?_ GE365.out | refine below_set ?_ GE375.out | refine below_set ?_ GE392.out | refine below_set ?_ GE418.out) | exact HB.out))) : w.heap.size ≤ gb436)); have n8_ := Aside0.mk ((by rw [hg]; exact (below_size (by repeat (first | (with_reducible first | exact HB.out | apply below_alloc | apply pw_below_drewN | apply below_drew1 | refine below_set ?_ GE353.out | refine below_set ?_ GE365.out | refine below_set ?_ GE375.out | refine below_set ?_ GE392.out | refine below_set ?_ GE418.out) | exact HB.out))) : w.heap.size ≤ gb436)); have n9_ := law4B.neL BK353 hg; have n10_ := law4B.neG BK353 hg; have n11_ := law4B.neL BK365 hg; have n12_ := law4B.neG BK365 hg; have n13_ := law4B.neL BK375 hg; have n14_ := law4B.neG BK375 hg; have n15_ := law4B.neL BK392 hg; have n16_ := law4B.neG BK392 hg; have n17_ := law4B.neL BK418 hg; have n18_ := law4B.neG BK418 hg; clear BK353; clear BK365; clear BK375; clear BK392; clear BK418; clear HB; have BK353 := n0_; have BK365 := n1_; have BK375 := n2_; have BK392 := n3_; have BK418 := n4_; have HB := n5_; have BK436 := n6_; have GW436 := n7_; have GE436 := n8_; have NB353_436 := n9_; have NB436_353 := n10_; have NB365_436 := n11_; have NB436_365 := n12_; have NB375_436 := n13_; have NB436_375 := n14_; have NB392_436 := n15_; have NB436_392 := n16_; have NB418_436 := n17_; have NB436_418 := n18_; clear n0_ n1_ n2_ n3_ n4_ n5_ n6_ n7_ n8_ n9_ n10_ n11_ n12_ n13_ n14_ n15_ n16_ n17_ n18_; clear hb hbox hg; have hnb124 := NB436_353.out; have hnc124 := NB353_436.out; have hnb125 := NB436_365.out; have hnc125 := NB365_436.out; have hnb126 := NB436_375.out; have hnc126 := NB375_436.out; have hnb127 := NB436_392.out; have hnc127 := NB392_436.out; have hnb128 := NB436_418.out; have hnc128 := NB418_436.out; have hcz129_0 : w123.cell? ⟨gb436, 0, none⟩ = some (.int .u32 0) := (blk_cell BK436.out 0).trans rfl; have hcz129_1 : w123.cell? ⟨gb436, 1, none⟩ = some (.int .u32 0) := (blk_cell BK436.out 1).trans rfl; have hcz129_2 : w123.cell? ⟨gb436, 2, none⟩ = some (.int .u32 0) := (blk_cell BK436.out 2).trans rfl; have hcz129_3 : w123.cell? ⟨gb436, 3, none⟩ = some (.int .u32 0) := (blk_cell BK436.out 3).trans rfl; have hcz129_4 : w123.cell? ⟨gb436, 4, none⟩ = some (.int .u32 0) := (blk_cell BK436.out 4).trans rfl; have hcz129_5 : w123.cell? ⟨gb436, 5, none⟩ = some (.int .u32 0) := (blk_cell BK436.out 5).trans rfl; have hcz129_6 : w123.cell? ⟨gb436, 6, none⟩ = some (.int .u32 0) := (blk_cell BK436.out 6).trans rfl; have hcz129_7 : w123.cell? ⟨gb436, 7, none⟩ = some (.int .u32 0) := (blk_cell BK436.out 7).trans rfl; have hfz129_0 := blk_frozen BK436.out 0; have hfz129_1 := blk_frozen BK436.out 1; have hfz129_2 := blk_frozen BK436.out 2; have hfz129_3 := blk_frozen BK436.out 3; have hfz129_4 := blk_frozen BK436.out 4; have hfz129_5 := blk_frozen BK436.out 5; have hfz129_6 := blk_frozen BK436.out 6; have hfz129_7 := blk_frozen BK436.out 7) | ((with_reducible refine gate_callee (f := 8) rfl ?_); refine goesL_ (some 78) rfl rfl Try.func8 (by kernel_rfl) rfl #[] rfl (by (try simp only [List.map_toArray, List.map_cons, List.map_nil]); first | done | rfl | (simp only [List.length_drop, List.length_take]; rfl)) ?_; (with_reducible refine (offertorylaw28_awake.calls kj14  true _ A45.out).mono ?_); rintro e w130 ⟨rfl, hb⟩; refine ⟨_, rfl, ?_⟩; have n0_ := Aside0.mk (blk_below (g := gb353) (o := .cells #[.slice A0_0 l0_0.length c0_0, .int .i64 a0_1, .int .u64 a0_2, .int .u64 a0_3, .int .u64 a0_4, .int .u64 a0_5, .bool false] 36 (0, 0)) (by (repeat (first | (with_reducible first | refine blk_drewN ?_ _ | refine blk_drew ?_ | refine blk_alloc ?_ _) | refine blk_far ?_ NB353_436.out _)); (with_reducible repeat (first | refine blk_drewN ?_ _ | refine blk_drew ?_ | refine blk_alloc ?_ _)); exact BK353.out) hb); have n1_ := Aside0.mk (blk_below (g := gb365) (o := .cells #[.int .u32 t357, .int .u32 t358, .int .u32 t359, .int .u32 t360, .int .u32 t361, .int .u32 t362, .int .u32 t363, .int .u32 t364] 41 (0, 0)) (by (repeat (first | (with_reducible first | refine blk_drewN ?_ _ | refine blk_drew ?_ | refine blk_alloc ?_ _) | refine blk_far ?_ NB365_436.out _)); (with_reducible repeat (first | refine blk_drewN ?_ _ | refine blk_drew ?_ | refine blk_alloc ?_ _)); exact BK365.out) hb); have n2_ := Aside0.mk (blk_below (g := gb375) (o := .cells #[.int .u32 x376000_14, .int .u32 x376001_14, .int .u32 x376002_14, .int .u32 x376003_14, .int .u32 x376004_14, .int .u32 x376005_14, .int .u32 x376006_14, .int .u32 x376007_14] 41 (0, 0)) (by (repeat (first | (with_reducible first | refine blk_drewN ?_ _ | refine blk_drew ?_ | refine blk_alloc ?_ _) | refine blk_far ?_ NB375_436.out _)); (with_reducible repeat (first | refine blk_drewN ?_ _ | refine blk_drew ?_ | refine blk_alloc ?_ _)); exact BK375.out) hb); have n3_ := Aside0.mk (blk_below (g := gb392) (o := .cells #[.int .u32 t384, .int .u32 t385, .int .u32 t386, .int .u32 t387, .int .u32 t388, .int .u32 t389, .int .u32 t390, .int .u32 t391] 41 (0, 0)) (by (repeat (first | (with_reducible first | refine blk_drewN ?_ _ | refine blk_drew ?_ | refine blk_alloc ?_ _) | refine blk_far ?_ NB392_436.out _)); (with_reducible repeat (first | refine blk_drewN ?_ _ | refine blk_drew ?_ | refine blk_alloc ?_ _)); exact BK392.out) hb); have n4_ := Aside0.mk (blk_below (g := gb418) (o := .cells #[.int .u32 t409, .int .u32 t410, .int .u32 t411, .int .u32 t412, .int .u32 t413, .int .u32 t414, .int .u32 t415, .int .u32 t416] 41 (0, 0)) (by (repeat (first | (with_reducible first | refine blk_drewN ?_ _ | refine blk_drew ?_ | refine blk_alloc ?_ _) | refine blk_far ?_ NB418_436.out _)); (with_reducible repeat (first | refine blk_drewN ?_ _ | refine blk_drew ?_ | refine blk_alloc ?_ _)); exact BK418.out) hb); have n5_ := Aside0.mk (blk_below (g := gb436) (o := .cells #[.int .u32 t427, .int .u32 t428, .int .u32 t429, .int .u32 t430, .int .u32 t431, .int .u32 t432, .int .u32 t433, .int .u32 t434] 41 (0, 0)) (by (with_reducible repeat (first | refine blk_drewN ?_ _ | refine blk_drew ?_ | refine blk_alloc ?_ _)); refine blk_put (cs := #[.int .u32 t427, .int .u32 t428, .int .u32 t429, .int .u32 t430, .int .u32 t431, .int .u32 t432, .int .u32 t433, .int .u32 0]) ?_ 7 _ rfl; (with_reducible repeat (first | refine blk_drewN ?_ _ | refine blk_drew ?_ | refine blk_alloc ?_ _)); refine blk_put (cs := #[.int .u32 t427, .int .u32 t428, .int .u32 t429, .int .u32 t430, .int .u32 t431, .int .u32 t432, .int .u32 0, .int .u32 0]) ?_ 6 _ rfl; (with_reducible repeat (first | refine blk_drewN ?_ _ | refine blk_drew ?_ | refine blk_alloc ?_ _)); refine blk_put (cs := #[.int .u32 t427, .int .u32 t428, .int .u32 t429, .int .u32 t430, .int .u32 t431, .int .u32 0, .int .u32 0, .int .u32 0]) ?_ 5 _ rfl; (with_reducible repeat (first | refine blk_drewN ?_ _ | refine blk_drew ?_ | refine blk_alloc ?_ _)); refine blk_put (cs := #[.int .u32 t427, .int .u32 t428, .int .u32 t429, .int .u32 t430, .int .u32 0, .int .u32 0, .int .u32 0, .int .u32 0]) ?_ 4 _ rfl; (with_reducible repeat (first | refine blk_drewN ?_ _ | refine blk_drew ?_ | refine blk_alloc ?_ _)); refine blk_put (cs := #[.int .u32 t427, .int .u32 t428, .int .u32 t429, .int .u32 0, .int .u32 0, .int .u32 0, .int .u32 0, .int .u32 0]) ?_ 3 _ rfl; (with_reducible repeat (first | refine blk_drewN ?_ _ | refine blk_drew ?_ | refine blk_alloc ?_ _)); refine blk_put (cs := #[.int .u32 t427, .int .u32 t428, .int .u32 0, .int .u32 0, .int .u32 0, .int .u32 0, .int .u32 0, .int .u32 0]) ?_ 2 _ rfl; (with_reducible repeat (first | refine blk_drewN ?_ _ | refine blk_drew ?_ | refine blk_alloc ?_ _)); refine blk_put (cs := #[.int .u32 t427, .int .u32 0, .int .u32 0, .int .u32 0, .int .u32 0, .int .u32 0, .int .u32 0, .int .u32 0]) ?_ 1 _ rfl; (with_reducible repeat (first | refine blk_drewN ?_ _ | refine blk_drew ?_ | refine blk_alloc ?_ _)); refine blk_put (cs := #[.int .u32 0, .int .u32 0, .int .u32 0, .int .u32 0, .int .u32 0, .int .u32 0, .int .u32 0, .int .u32 0]) ?_ 0 _ rfl; (with_reducible repeat (first | refine blk_drewN ?_ _ | refine blk_drew ?_ | refine blk_alloc ?_ _)); exact BK436.out) hb); have n6_ := Aside0.mk (below_step (by repeat (first | (with_reducible first | exact HB.out | apply below_alloc | apply pw_below_drewN | apply below_drew1 | refine below_set ?_ GE353.out | refine below_set ?_ GE365.out | refine below_set ?_ GE375.out | refine below_set ?_ GE392.out | refine below_set ?_ GE418.out | refine below_set ?_ GE436.out) | exact HB.out)) hb); clear BK353; clear BK365; clear BK375; clear BK392; clear BK418; clear BK436; clear HB; have BK353 := n0_; have BK365 := n1_; have BK375 := n2_; have BK392 := n3_; have BK418 := n4_; have BK436 := n5_; have HB := n6_; clear n0_ n1_ n2_ n3_ n4_ n5_ n6_; (try clear hb); (try clear hb2); (try clear hk); (try clear hi); have hnb131 := NB353_418.out; have hnc131 := NB418_353.out; have hcz132_0 : w130.cell? ⟨gb353, 0, none⟩ = some (.slice A0_0 l0_0.length c0_0) := (blk_cell BK353.out 0).trans rfl; have hcz132_1 : w130.cell? ⟨gb353, 1, none⟩ = some (.int .i64 a0_1) := (blk_cell BK353.out 1).trans rfl; have hcz132_2 : w130.cell? ⟨gb353, 2, none⟩ = some (.int .u64 a0_2) := (blk_cell BK353.out 2).trans rfl; have hcz132_3 : w130.cell? ⟨gb353, 3, none⟩ = some (.int .u64 a0_3) := (blk_cell BK353.out 3).trans rfl; have hcz132_4 : w130.cell? ⟨gb353, 4, none⟩ = some (.int .u64 a0_4) := (blk_cell BK353.out 4).trans rfl; have hcz132_5 : w130.cell? ⟨gb353, 5, none⟩ = some (.int .u64 a0_5) := (blk_cell BK353.out 5).trans rfl; have hcz132_6 : w130.cell? ⟨gb353, 6, none⟩ = some (.bool false) := (blk_cell BK353.out 6).trans rfl; have hfz132_0 := blk_frozen BK353.out 0; have hfz132_1 := blk_frozen BK353.out 1; have hfz132_2 := blk_frozen BK353.out 2; have hfz132_3 := blk_frozen BK353.out 3; have hfz132_4 := blk_frozen BK353.out 4; have hfz132_5 := blk_frozen BK353.out 5; have hfz132_6 := blk_frozen BK353.out 6))
           go_ret
           exact ⟨by first | rfl | (simp [errW_none, errW_some] <;> rfl) | (simp [*, errW_none, errW_some] <;> rfl), by repeat (first | (with_reducible first | exact HB.out | apply below_alloc | apply pw_below_drewN | apply below_drew1 | refine below_set ?_ GE353.out | refine below_set ?_ GE365.out | refine below_set ?_ GE375.out | refine below_set ?_ GE392.out | refine below_set ?_ GE418.out | refine below_set ?_ GE436.out) | exact HB.out)⟩
        ·
         rw [if_neg c48] at H
         exact absurd H (by simp)
       ·
        rw [if_neg c47] at H
        exact absurd H (by simp)
      ·
       replace c46 := Bool.eq_false_iff.mpr c46
       subst c46
       have H1 : (none) = some r := by rw [if_neg (show ¬ (false = true) by decide)] at H; exact H
       clear H
       have H := H1
       clear H1
       exact absurd H (by simp)
  ·
   rw [if_neg c13] at H
   have c13b0 : ((a0_2 / 4611686018427387904) == 0) = false := beq_eq_false_iff_ne.mpr c13
   have c13b1 : ((a0_2 / 4611686018427387904) != 0) = true := bne_iff_ne.mpr c13
   replace H := Option.bind_eq_some_iff.mp H
   obtain ⟨t366, A1330, H⟩ := H
   (try dsimp only at H)
   have A133 := Aside0.mk A1330
   clear A1330
   by_cases c134 : t366 = true
   ·
    subst c134
    have H1 : (if t355 = 4 then (some (t354 == 0)) else (none)) = some r := by rw [if_pos rfl] at H; exact H
    clear H
    have H := H1
    clear H1
    by_cases c135 : t355 = 4
    ·
     rw [if_pos c135] at H
     have c135b0 : (t355 == 4) = true := beq_iff_eq.mpr c135
     have c135b1 : (t355 != 4) = false := bne_eq_false_iff_eq.mpr c135
     clear c135
     obtain rfl := Option.some.inj H
     go_enter Try.func4, Try.ntmps4
     go_wp2_with (first | ((with_reducible refine gate_dst (N := 1) rfl ?_); refine box_event ?hg (N := 1) ?hd (cs := #[.slice A0_0 l0_0.length c0_0, .int .i64 a0_1, .int .u64 a0_2, .int .u64 a0_3, .int .u64 a0_4, .int .u64 a0_5, .bool a0_6]) (t := 36) ?hr ?_; (case hd => rfl); (case hg => rfl); (case hr => first | (go_simp; done) | (go_simp; rfl)); intro gb353 hg w136 hbox hb; have n0_ := Aside0.mk (below_step (by repeat (first | (with_reducible first | exact HB.out | apply below_alloc | apply pw_below_drewN | apply below_drew1) | exact HB.out)) hb); have n1_ := Aside0.mk (hbox); have n2_ := Aside0.mk ((by rw [hg]; exact (below_size (by repeat (first | (with_reducible first | exact HB.out | apply below_alloc | apply pw_below_drewN | apply below_drew1) | exact HB.out))) : w.heap.size ≤ gb353)); have n3_ := Aside0.mk ((by rw [hg]; exact (below_size (by repeat (first | (with_reducible first | exact HB.out | apply below_alloc | apply pw_below_drewN | apply below_drew1) | exact HB.out))) : w.heap.size ≤ gb353)); clear HB; have HB := n0_; have BK353 := n1_; have GW353 := n2_; have GE353 := n3_; clear n0_ n1_ n2_ n3_; clear hb hbox hg; have hcz137_0 : w136.cell? ⟨gb353, 0, none⟩ = some (.slice A0_0 l0_0.length c0_0) := (blk_cell BK353.out 0).trans rfl; have hcz137_1 : w136.cell? ⟨gb353, 1, none⟩ = some (.int .i64 a0_1) := (blk_cell BK353.out 1).trans rfl; have hcz137_2 : w136.cell? ⟨gb353, 2, none⟩ = some (.int .u64 a0_2) := (blk_cell BK353.out 2).trans rfl; have hcz137_3 : w136.cell? ⟨gb353, 3, none⟩ = some (.int .u64 a0_3) := (blk_cell BK353.out 3).trans rfl; have hcz137_4 : w136.cell? ⟨gb353, 4, none⟩ = some (.int .u64 a0_4) := (blk_cell BK353.out 4).trans rfl; have hcz137_5 : w136.cell? ⟨gb353, 5, none⟩ = some (.int .u64 a0_5) := (blk_cell BK353.out 5).trans rfl; have hcz137_6 : w136.cell? ⟨gb353, 6, none⟩ = some (.bool a0_6) := (blk_cell BK353.out 6).trans rfl; have hfz137_0 := blk_frozen BK353.out 0; have hfz137_1 := blk_frozen BK353.out 1; have hfz137_2 := blk_frozen BK353.out 2; have hfz137_3 := blk_frozen BK353.out 3; have hfz137_4 := blk_frozen BK353.out 4; have hfz137_5 := blk_frozen BK353.out 5; have hfz137_6 := blk_frozen BK353.out 6) | ((with_reducible refine gate_callee (f := 10) rfl ?_); refine goesL_ (some 20) rfl rfl Try.func10 (by kernel_rfl) rfl #[.agg #[.slice A0_0 l0_0.length c0_0, .int .i64 a0_1, .int .u64 a0_2, .int .u64 a0_3, .int .u64 a0_4, .int .u64 a0_5, .bool a0_6]] rfl (by (try simp only [List.map_toArray, List.map_cons, List.map_nil]); first | done | rfl | (simp only [List.length_drop, List.length_take]; rfl)) ?_; (with_reducible refine (rank_Mean.calls k _ _ l0_0 a0_1 a0_2 a0_3 a0_4 a0_5 a0_6 t354 t355 _ ?side1 ?side2 A2.out).mono ?_); (case side1 => repeat (first | exact (Kd.C_below HR0_0.out HB.out) | (with_reducible refine Kd.C_alloc ?_ _) | (with_reducible refine Kd.C_drewN ?_ _) | (with_reducible refine Kd.C_drew ?_))); (case side2 => exact HC0_0.out); rintro e w138 ⟨rfl, hb⟩; refine ⟨_, rfl, ?_⟩; have n0_ := law4B.keepB BK353 hb; have n1_ := Aside0.mk (below_step (by repeat (first | (with_reducible first | exact HB.out | apply below_alloc | apply pw_below_drewN | apply below_drew1 | refine below_set ?_ GE353.out) | exact HB.out)) hb); clear BK353; clear HB; have BK353 := n0_; have HB := n1_; clear n0_ n1_; (try clear hb); (try clear hb2); (try clear hk); (try clear hi); have hcz139_0 : w138.cell? ⟨gb353, 0, none⟩ = some (.slice A0_0 l0_0.length c0_0) := (blk_cell BK353.out 0).trans rfl; have hcz139_1 : w138.cell? ⟨gb353, 1, none⟩ = some (.int .i64 a0_1) := (blk_cell BK353.out 1).trans rfl; have hcz139_2 : w138.cell? ⟨gb353, 2, none⟩ = some (.int .u64 a0_2) := (blk_cell BK353.out 2).trans rfl; have hcz139_3 : w138.cell? ⟨gb353, 3, none⟩ = some (.int .u64 a0_3) := (blk_cell BK353.out 3).trans rfl; have hcz139_4 : w138.cell? ⟨gb353, 4, none⟩ = some (.int .u64 a0_4) := (blk_cell BK353.out 4).trans rfl; have hcz139_5 : w138.cell? ⟨gb353, 5, none⟩ = some (.int .u64 a0_5) := (blk_cell BK353.out 5).trans rfl; have hcz139_6 : w138.cell? ⟨gb353, 6, none⟩ = some (.bool a0_6) := (blk_cell BK353.out 6).trans rfl; have hfz139_0 := blk_frozen BK353.out 0; have hfz139_1 := blk_frozen BK353.out 1; have hfz139_2 := blk_frozen BK353.out 2; have hfz139_3 := blk_frozen BK353.out 3; have hfz139_4 := blk_frozen BK353.out 4; have hfz139_5 := blk_frozen BK353.out 5; have hfz139_6 := blk_frozen BK353.out 6) | ((with_reducible refine gate_callee (f := 11) rfl ?_); refine goesL_ (some 37) rfl rfl Try.func11 (by kernel_rfl) rfl #[.int .i64 a0_1] rfl (by (try simp only [List.map_toArray, List.map_cons, List.map_nil]); first | done | rfl | (simp only [List.length_drop, List.length_take]; rfl)) ?_; (with_reducible refine (offertoryref09_Int.calls a0_1 t357 t358 t359 t360 t361 t362 t363 t364 _ A12.out).mono ?_); rintro e w140 ⟨rfl, hb⟩; refine ⟨_, rfl, ?_⟩; have n0_ := law4B.keepB BK353 hb; have n1_ := Aside0.mk (below_step (by repeat (first | (with_reducible first | exact HB.out | apply below_alloc | apply pw_below_drewN | apply below_drew1 | refine below_set ?_ GE353.out) | exact HB.out)) hb); clear BK353; clear HB; have BK353 := n0_; have HB := n1_; clear n0_ n1_; (try clear hb); (try clear hb2); (try clear hk); (try clear hi)) | ((with_reducible refine gate_dst (N := 5) rfl ?_); refine box_event ?hg (N := 5) ?hd (cs := #[.int .u32 0, .int .u32 0, .int .u32 0, .int .u32 0, .int .u32 0, .int .u32 0, .int .u32 0, .int .u32 0]) (t := 41) ?hr ?_; (case hd => rfl); (case hg => rfl); (case hr => first | (go_simp; done) | (go_simp; rfl)); intro gb365 hg w141 hbox hb; have n0_ := law4B.keepB BK353 hb; have n1_ := Aside0.mk (below_step (by repeat (first | (with_reducible first | exact HB.out | apply below_alloc | apply pw_below_drewN | apply below_drew1 | refine below_set ?_ GE353.out) | exact HB.out)) hb); have n2_ := Aside0.mk (hbox); have n3_ := Aside0.mk ((by rw [hg]; exact (below_size (by repeat (first | (with_reducible first | exact HB.out | apply below_alloc | apply pw_below_drewN | apply below_drew1 | refine below_set ?_ GE353.out) | exact HB.out))) : w.heap.size ≤ gb365)); have n4_ := Aside0.mk ((by rw [hg]; exact (below_size (by repeat (first | (with_reducible first | exact HB.out | apply below_alloc | apply pw_below_drewN | apply below_drew1 | refine below_set ?_ GE353.out) | exact HB.out))) : w.heap.size ≤ gb365)); have n5_ := law4B.neL BK353 hg; have n6_ := law4B.neG BK353 hg; clear BK353; clear HB; have BK353 := n0_; have HB := n1_; have BK365 := n2_; have GW365 := n3_; have GE365 := n4_; have NB353_365 := n5_; have NB365_353 := n6_; clear n0_ n1_ n2_ n3_ n4_ n5_ n6_; clear hb hbox hg; have hnb142 := NB365_353.out; have hnc142 := NB353_365.out; have hcz143_0 : w141.cell? ⟨gb365, 0, none⟩ = some (.int .u32 0) := (blk_cell BK365.out 0).trans rfl; have hcz143_1 : w141.cell? ⟨gb365, 1, none⟩ = some (.int .u32 0) := (blk_cell BK365.out 1).trans rfl; have hcz143_2 : w141.cell? ⟨gb365, 2, none⟩ = some (.int .u32 0) := (blk_cell BK365.out 2).trans rfl; have hcz143_3 : w141.cell? ⟨gb365, 3, none⟩ = some (.int .u32 0) := (blk_cell BK365.out 3).trans rfl; have hcz143_4 : w141.cell? ⟨gb365, 4, none⟩ = some (.int .u32 0) := (blk_cell BK365.out 4).trans rfl; have hcz143_5 : w141.cell? ⟨gb365, 5, none⟩ = some (.int .u32 0) := (blk_cell BK365.out 5).trans rfl; have hcz143_6 : w141.cell? ⟨gb365, 6, none⟩ = some (.int .u32 0) := (blk_cell BK365.out 6).trans rfl; have hcz143_7 : w141.cell? ⟨gb365, 7, none⟩ = some (.int .u32 0) := (blk_cell BK365.out 7).trans rfl; have hfz143_0 := blk_frozen BK365.out 0; have hfz143_1 := blk_frozen BK365.out 1; have hfz143_2 := blk_frozen BK365.out 2; have hfz143_3 := blk_frozen BK365.out 3; have hfz143_4 := blk_frozen BK365.out 4; have hfz143_5 := blk_frozen BK365.out 5; have hfz143_6 := blk_frozen BK365.out 6; have hfz143_7 := blk_frozen BK365.out 7; have hcz144_0 : w141.cell? ⟨gb353, 0, none⟩ = some (.slice A0_0 l0_0.length c0_0) := (blk_cell BK353.out 0).trans rfl; have hcz144_1 : w141.cell? ⟨gb353, 1, none⟩ = some (.int .i64 a0_1) := (blk_cell BK353.out 1).trans rfl; have hcz144_2 : w141.cell? ⟨gb353, 2, none⟩ = some (.int .u64 a0_2) := (blk_cell BK353.out 2).trans rfl; have hcz144_3 : w141.cell? ⟨gb353, 3, none⟩ = some (.int .u64 a0_3) := (blk_cell BK353.out 3).trans rfl; have hcz144_4 : w141.cell? ⟨gb353, 4, none⟩ = some (.int .u64 a0_4) := (blk_cell BK353.out 4).trans rfl; have hcz144_5 : w141.cell? ⟨gb353, 5, none⟩ = some (.int .u64 a0_5) := (blk_cell BK353.out 5).trans rfl; have hcz144_6 : w141.cell? ⟨gb353, 6, none⟩ = some (.bool a0_6) := (blk_cell BK353.out 6).trans rfl; have hfz144_0 := blk_frozen BK353.out 0; have hfz144_1 := blk_frozen BK353.out 1; have hfz144_2 := blk_frozen BK353.out 2; have hfz144_3 := blk_frozen BK353.out 3; have hfz144_4 := blk_frozen BK353.out 4; have hfz144_5 := blk_frozen BK353.out 5; have hfz144_6 := blk_frozen BK353.out 6) | ((with_reducible refine gate_callee (f := 8) rfl ?_); refine goesL_ (some 43) rfl rfl Try.func8 (by kernel_rfl) rfl #[] rfl (by (try simp only [List.map_toArray, List.map_cons, List.map_nil]); first | done | rfl | (simp only [List.length_drop, List.length_take]; rfl)) ?_; (with_reducible refine (offertorylaw28_awake.calls k  true _ A133.out).mono ?_); rintro e w145 ⟨rfl, hb⟩; refine ⟨_, rfl, ?_⟩; have n0_ := Aside0.mk (blk_below (g := gb353) (o := .cells #[.slice A0_0 l0_0.length c0_0, .int .i64 a0_1, .int .u64 a0_2, .int .u64 a0_3, .int .u64 a0_4, .int .u64 a0_5, .bool a0_6] 36 (0, 0)) (by (repeat (first | (with_reducible first | refine blk_drewN ?_ _ | refine blk_drew ?_ | refine blk_alloc ?_ _) | refine blk_far ?_ NB353_365.out _)); (with_reducible repeat (first | refine blk_drewN ?_ _ | refine blk_drew ?_ | refine blk_alloc ?_ _)); exact BK353.out) hb); have n1_ := Aside0.mk (blk_below (g := gb365) (o := .cells #[.int .u32 t357, .int .u32 t358, .int .u32 t359, .int .u32 t360, .int .u32 t361, .int .u32 t362, .int .u32 t363, .int .u32 t364] 41 (0, 0)) (by (with_reducible repeat (first | refine blk_drewN ?_ _ | refine blk_drew ?_ | refine blk_alloc ?_ _)); refine blk_put (cs := #[.int .u32 t357, .int .u32 t358, .int .u32 t359, .int .u32 t360, .int .u32 t361, .int .u32 t362, .int .u32 t363, .int .u32 0]) ?_ 7 _ rfl; (with_reducible repeat (first | refine blk_drewN ?_ _ | refine blk_drew ?_ | refine blk_alloc ?_ _)); refine blk_put (cs := #[.int .u32 t357, .int .u32 t358, .int .u32 t359, .int .u32 t360, .int .u32 t361, .int .u32 t362, .int .u32 0, .int .u32 0]) ?_ 6 _ rfl; (with_reducible repeat (first | refine blk_drewN ?_ _ | refine blk_drew ?_ | refine blk_alloc ?_ _)); refine blk_put (cs := #[.int .u32 t357, .int .u32 t358, .int .u32 t359, .int .u32 t360, .int .u32 t361, .int .u32 0, .int .u32 0, .int .u32 0]) ?_ 5 _ rfl; (with_reducible repeat (first | refine blk_drewN ?_ _ | refine blk_drew ?_ | refine blk_alloc ?_ _)); refine blk_put (cs := #[.int .u32 t357, .int .u32 t358, .int .u32 t359, .int .u32 t360, .int .u32 0, .int .u32 0, .int .u32 0, .int .u32 0]) ?_ 4 _ rfl; (with_reducible repeat (first | refine blk_drewN ?_ _ | refine blk_drew ?_ | refine blk_alloc ?_ _)); refine blk_put (cs := #[.int .u32 t357, .int .u32 t358, .int .u32 t359, .int .u32 0, .int .u32 0, .int .u32 0, .int .u32 0, .int .u32 0]) ?_ 3 _ rfl; (with_reducible repeat (first | refine blk_drewN ?_ _ | refine blk_drew ?_ | refine blk_alloc ?_ _)); refine blk_put (cs := #[.int .u32 t357, .int .u32 t358, .int .u32 0, .int .u32 0, .int .u32 0, .int .u32 0, .int .u32 0, .int .u32 0]) ?_ 2 _ rfl; (with_reducible repeat (first | refine blk_drewN ?_ _ | refine blk_drew ?_ | refine blk_alloc ?_ _)); refine blk_put (cs := #[.int .u32 t357, .int .u32 0, .int .u32 0, .int .u32 0, .int .u32 0, .int .u32 0, .int .u32 0, .int .u32 0]) ?_ 1 _ rfl; (with_reducible repeat (first | refine blk_drewN ?_ _ | refine blk_drew ?_ | refine blk_alloc ?_ _)); refine blk_put (cs := #[.int .u32 0, .int .u32 0, .int .u32 0, .int .u32 0, .int .u32 0, .int .u32 0, .int .u32 0, .int .u32 0]) ?_ 0 _ rfl; (with_reducible repeat (first | refine blk_drewN ?_ _ | refine blk_drew ?_ | refine blk_alloc ?_ _)); exact BK365.out) hb); have n2_ := Aside0.mk (below_step (by repeat (first | (with_reducible first | exact HB.out | apply below_alloc | apply pw_below_drewN | apply below_drew1 | refine below_set ?_ GE353.out | refine below_set ?_ GE365.out) | exact HB.out)) hb); clear BK353; clear BK365; clear HB; have BK353 := n0_; have BK365 := n1_; have HB := n2_; clear n0_ n1_ n2_; (try clear hb); (try clear hb2); (try clear hk); (try clear hi)))
     go_ret
     exact ⟨by first | rfl | (simp [errW_none, errW_some] <;> rfl) | (simp [*, errW_none, errW_some] <;> rfl), by repeat (first | (with_reducible first | exact HB.out | apply below_alloc | apply pw_below_drewN | apply below_drew1 | refine below_set ?_ GE353.out | refine below_set ?_ GE365.out) | exact HB.out)⟩
    ·
     rw [if_neg c135] at H
     exact absurd H (by simp)
   ·
    replace c134 := Bool.eq_false_iff.mpr c134
    subst c134
    have H1 : (none) = some r := by rw [if_neg (show ¬ (false = true) by decide)] at H; exact H
    clear H
    have H := H1
    clear H1
    exact absurd H (by simp)

end Go.Proofs.Ythokkogdkpmdcaa.PAll
