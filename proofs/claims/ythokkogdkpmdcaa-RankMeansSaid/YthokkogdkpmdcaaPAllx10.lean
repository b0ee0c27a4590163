/- The Go functions that the laws reach, as Lean functions, and that each call comes to what its function says. Written by a program of this session (a turned copy of the kit's print). No condition beyond those that each theorem states. -/
import Derived.Test.YthokkogdkpmdcaaPAllx0
import Derived.Test.YthokkogdkpmdcaaPAllx4
import Derived.Test.YthokkogdkpmdcaaPAllx5
import Derived.Test.YthokkogdkpmdcaaPAllx8
import Derived.Test.YthokkogdkpmdcaaPAllx9
namespace Go.Proofs.Ythokkogdkpmdcaa.PAll
open Go.RowKit Go.Proofs.YthokkogdkpmdcaaW.PrintWords Go.Proofs.YthokkogdkpmdcaaW.PrintLast Go.Proofs.YthokkogdkpmdcaaW.PrintMore
attribute [local go_sem] max2_int min2_int max_two min_two max_three min_three max_four min_four   -- for this text's walks alone
set_option linter.unusedVariables false
set_option linter.unusedSimpArgs false

theorem law4A.keepB {W0 W w1 : World} {g : Nat} {o : Obj} (h : Aside0 (W0.heap[g]? = some o)) (hb : Below W.heap.size W w1) (hs : W0.heap[g]? = some o → W.heap[g]? = some o := by intro h_; (with_reducible repeat (first | refine blk_drewN ?_ _ | refine blk_drew ?_ | refine blk_alloc ?_ _)); exact h_) : Aside0 (w1.heap[g]? = some o) := ⟨(hb.block g (blk_lt (hs h.out))).trans (hs h.out)⟩
theorem law4A.neL {W0 W : World} {g gb : Nat} {o : Obj} (h : Aside0 (W0.heap[g]? = some o)) (hg : gb = W.heap.size) (hs : W0.heap[g]? = some o → W.heap[g]? = some o := by intro h_; (with_reducible repeat (first | refine blk_drewN ?_ _ | refine blk_drew ?_ | refine blk_alloc ?_ _)); exact h_) : Aside0 (g ≠ gb) := ⟨by rw [hg]; exact Nat.ne_of_lt (blk_lt (hs h.out))⟩
theorem law4A.neG {W0 W : World} {g gb : Nat} {o : Obj} (h : Aside0 (W0.heap[g]? = some o)) (hg : gb = W.heap.size) (hs : W0.heap[g]? = some o → W.heap[g]? = some o := by intro h_; (with_reducible repeat (first | refine blk_drewN ?_ _ | refine blk_drew ?_ | refine blk_alloc ?_ _)); exact h_) : Aside0 (gb ≠ g) := ⟨by rw [hg]; exact Nat.ne_of_gt (blk_lt (hs h.out))⟩
/-! ### law4A: function 4 -/
def law4A.j0 : Nat → Int → Int → Int → Int → Int → Int → Int → Int → Int → Int → Int → Int → Int → Int → Int → Int → Int → Int → Option (Bool)
 | 0, _, _, _, _, _, _, _, _, _, _, _, _, _, _, _, _, _, _ => none
 | k + 1, x3, x4, x210000, x210001, x210002, x210003, x210004, x210005, x210006, x210007, x220000, x220001, x220002, x220003, x220004, x220005, x220006, x220007 => if x4 = 0 then ((offertoryref09_Int.f x3).bind fun bt282 => ((offertoryref09_Mul.f bt282.1 bt282.2.1 bt282.2.2.1 bt282.2.2.2.1 bt282.2.2.2.2.1 bt282.2.2.2.2.2.1 bt282.2.2.2.2.2.2.1 bt282.2.2.2.2.2.2.2 x210000 x210001 x210002 x210003 x210004 x210005 x210006 x210007).bind fun bt290 => ((offertoryref09_Neg.f bt290.1 bt290.2.1 bt290.2.2.1 bt290.2.2.2.1 bt290.2.2.2.2.1 bt290.2.2.2.2.2.1 bt290.2.2.2.2.2.2.1 bt290.2.2.2.2.2.2.2).bind fun bt299 => ((offertoryref09_Add.f x220000 x220001 x220002 x220003 x220004 x220005 x220006 x220007 bt299.1 bt299.2.1 bt299.2.2.1 bt299.2.2.2.1 bt299.2.2.2.2.1 bt299.2.2.2.2.2.1 bt299.2.2.2.2.2.2.1 bt299.2.2.2.2.2.2.2).bind fun bt307 => ((offertoryref09_Signed.f bt307.1 bt307.2.1 bt307.2.2.1 bt307.2.2.2.1 bt307.2.2.2.2.1 bt307.2.2.2.2.2.1 bt307.2.2.2.2.2.2.1 bt307.2.2.2.2.2.2.2).bind fun bt316 => ((offertoryref09_Neg.f x210000 x210001 x210002 x210003 x210004 x210005 x210006 x210007).bind fun bt326 => ((offertoryref09_Add.f bt307.1 bt307.2.1 bt307.2.2.1 bt307.2.2.2.1 bt307.2.2.2.2.1 bt307.2.2.2.2.2.1 bt307.2.2.2.2.2.2.1 bt307.2.2.2.2.2.2.2 bt326.1 bt326.2.1 bt326.2.2.1 bt326.2.2.2.1 bt326.2.2.2.2.1 bt326.2.2.2.2.2.1 bt326.2.2.2.2.2.2.1 bt326.2.2.2.2.2.2.2).bind fun bt334 => ((offertoryref09_Signed.f bt334.1 bt334.2.1 bt334.2.2.1 bt334.2.2.2.1 bt334.2.2.2.2.1 bt334.2.2.2.2.2.1 bt334.2.2.2.2.2.2.1 bt334.2.2.2.2.2.2.2).bind fun bt342 => ((offertorylaw28_awake.f k).bind fun t352 => (if t352 = true then (if bt316.2.2.2.2.2.2.2.2 = true then (none) else (some bt342.2.2.2.2.2.2.2.2)) else (none))))))))))) else (none)
def law4A.f (k : Nat) (l0_0 : List Int) (a0_1 : Int) (a0_2 : Int) (a0_3 : Int) (a0_4 : Int) (a0_5 : Int) (a0_6 : Bool) : Option (Bool) := (rank_Mean.f k l0_0 a0_1 a0_2 a0_3 a0_4 a0_5 a0_6).bind fun bt198 => (if a0_1 < 1 then ((offertorylaw28_awake.f k).bind fun t200 => (if t200 = true then (if bt198.2 = 1 then (some (bt198.1 == 0)) else (none)) else (none))) else ((offertoryref09_Int.f a0_1).bind fun bt201 => (if (a0_2 / 4611686018427387904) = 0 then ((offertoryref09_Of.f a0_2 a0_3).bind fun bt211 => (if a0_6 = true then ((offertoryref09_Neg.f bt211.1 bt211.2.1 bt211.2.2.1 bt211.2.2.2.1 bt211.2.2.2.2.1 bt211.2.2.2.2.2.1 bt211.2.2.2.2.2.2.1 bt211.2.2.2.2.2.2.2).bind fun bt220 => (law4A.j0 k bt198.1 bt198.2 bt201.1 bt201.2.1 bt201.2.2.1 bt201.2.2.2.1 bt201.2.2.2.2.1 bt201.2.2.2.2.2.1 bt201.2.2.2.2.2.2.1 bt201.2.2.2.2.2.2.2 bt220.1 bt220.2.1 bt220.2.2.1 bt220.2.2.2.1 bt220.2.2.2.2.1 bt220.2.2.2.2.2.1 bt220.2.2.2.2.2.2.1 bt220.2.2.2.2.2.2.2)) else (law4A.j0 k bt198.1 bt198.2 bt201.1 bt201.2.1 bt201.2.2.1 bt201.2.2.2.1 bt201.2.2.2.2.1 bt201.2.2.2.2.2.1 bt201.2.2.2.2.2.2.1 bt201.2.2.2.2.2.2.2 bt211.1 bt211.2.1 bt211.2.2.1 bt211.2.2.2.1 bt211.2.2.2.2.1 bt211.2.2.2.2.2.1 bt211.2.2.2.2.2.2.1 bt211.2.2.2.2.2.2.2))) else ((offertorylaw28_awake.f k).bind fun t210 => (if t210 = true then (if bt198.2 = 4 then (some (bt198.1 == 0)) else (none)) else (none))))))
theorem law4A.mono_l : ∀ k, (∀ y0 y1 y2 y3 y4 y5 y6 y7 y8 y9 y10 y11 y12 y13 y14 y15 y16 y17, LeO (law4A.j0 k y0 y1 y2 y3 y4 y5 y6 y7 y8 y9 y10 y11 y12 y13 y14 y15 y16 y17) (law4A.j0 (k + 1) y0 y1 y2 y3 y4 y5 y6 y7 y8 y9 y10 y11 y12 y13 y14 y15 y16 y17))
 | 0 => fun _ _ _ _ _ _ _ _ _ _ _ _ _ _ _ _ _ _ r h => by simp [law4A.j0] at h
 | k + 1 => by
  have ih0 := law4A.mono_l k
  ·
   intro y0 y1 y2 y3 y4 y5 y6 y7 y8 y9 y10 y11 y12 y13 y14 y15 y16 y17
   unfold law4A.j0
   repeat' first
   | (with_reducible exact ih0 _ _ _ _ _ _ _ _ _ _ _ _ _ _ _ _ _ _)
   | (with_reducible exact offertorylaw28_awake.mono _)
   | (with_reducible exact offertoryref09_Shift.mono _ _ _ _ _ _ _ _ _ _)
   | (with_reducible exact rank_Mean.mono _ _ _ _ _ _ _ _)
   | (with_reducible exact LeO.refl _)
   | (with_reducible exact LeO.none _)
   | (with_reducible refine LeO.ite ?_ ?_)
   | (with_reducible refine LeO.bind ?_ (fun _ => ?_))
   | exact ih0 _ _ _ _ _ _ _ _ _ _ _ _ _ _ _ _ _ _
   | exact offertorylaw28_awake.mono _
   | exact offertoryref09_Shift.mono _ _ _ _ _ _ _ _ _ _
   | exact rank_Mean.mono _ _ _ _ _ _ _ _
   | exact LeO.none _
   | refine LeO.ite ?_ ?_
   | refine LeO.bind ?_ (fun _ => ?_)
theorem law4A.mono : ∀ a0 a1 a2 a3 a4 a5 a6 k, LeO (law4A.f k a0 a1 a2 a3 a4 a5 a6) (law4A.f (k + 1) a0 a1 a2 a3 a4 a5 a6) := by
 intro a0 a1 a2 a3 a4 a5 a6 k
 have ih0 := law4A.mono_l k
 unfold law4A.f
 repeat' first
   | (with_reducible exact ih0 _ _ _ _ _ _ _ _ _ _ _ _ _ _ _ _ _ _)
   | (with_reducible exact offertorylaw28_awake.mono _)
   | (with_reducible exact offertoryref09_Shift.mono _ _ _ _ _ _ _ _ _ _)
   | (with_reducible exact rank_Mean.mono _ _ _ _ _ _ _ _)
   | (with_reducible exact LeO.refl _)
   | (with_reducible exact LeO.none _)
   | (with_reducible refine LeO.ite ?_ ?_)
   | (with_reducible refine LeO.bind ?_ (fun _ => ?_))
   | exact ih0 _ _ _ _ _ _ _ _ _ _ _ _ _ _ _ _ _ _
   | exact offertorylaw28_awake.mono _
   | exact offertoryref09_Shift.mono _ _ _ _ _ _ _ _ _ _
   | exact rank_Mean.mono _ _ _ _ _ _ _ _
   | exact LeO.none _
   | refine LeO.ite ?_ ?_
   | refine LeO.bind ?_ (fun _ => ?_)
def law4A.T18 : Bool × List (List Nat × List Nat) := (true, [([], []), ([], []), ([1], [1]), ([0, 2, 2], [0, 2]), ([3, 3], [3]), ([4], [4]), ([5], [5]), ([5], [5]), ([], []), ([8, 6, 4, 0, 1, 2, 3, 4, 5, 6, 8], [6, 8]), ([7, 9, 0, 1, 2, 3, 4, 5, 6, 7, 8, 9], [7])])
def law4A.B18 : List Nat := [0, 0, 2, 7, 15, 31, 63, 63, 0, 383, 1023]
theorem law4A.tab18 : rtab .any (opsOf Try.f4 18) = law4A.T18 := by kernel_rfl
theorem law4A.bits18 : waitsOk law4A.T18.2 law4A.B18 = true := by kernel_rfl
set_option maxHeartbeats 8000000 in
set_option maxRecDepth 100000 in
theorem law4A.calls (k : Nat) (A0_0 : Option Addr) (c0_0 : Nat) (l0_0 : List Int) (a0_1 : Int) (a0_2 : Int) (a0_3 : Int) (a0_4 : Int) (a0_5 : Int) (a0_6 : Bool) (r : Bool) (w : World) (hr0_0 : Kd.C (Kd.int .i64) w A0_0 l0_0.length l0_0) (hc0_0 : l0_0.length ≤ c0_0) (h : law4A.f k l0_0 a0_1 a0_2 a0_3 a0_4 a0_5 a0_6 = some r) :
  Calls Try.prog 4 #[.agg #[.slice A0_0 l0_0.length c0_0, .int .i64 a0_1, .int .u64 a0_2, .int .u64 a0_3, .int .u64 a0_4, .int .u64 a0_5, .bool a0_6]] w fun e w' => e = .returned (.bool r) ∧ Below w.heap.size w w' := by
 have hu36 := Try.underlying36
 have hu41 := Try.underlying41
 have hu34 := Try.underlying34
 have HR0_0 := Aside0.mk hr0_0
 have HC0_0 := Aside0.mk hc0_0
 clear hr0_0 hc0_0
 have HB := Aside0.mk (Below.refl w.heap.size w)
 have H : ((rank_Mean.f k l0_0 a0_1 a0_2 a0_3 a0_4 a0_5 a0_6).bind fun bt198 => (if a0_1 < 1 then ((offertorylaw28_awake.f k).bind fun t200 => (if t200 = true then (if bt198.2 = 1 then (some (bt198.1 == 0)) else (none)) else (none))) else ((offertoryref09_Int.f a0_1).bind fun bt201 => (if (a0_2 / 4611686018427387904) = 0 then ((offertoryref09_Of.f a0_2 a0_3).bind fun bt211 => (if a0_6 = true then ((offertoryref09_Neg.f bt211.1 bt211.2.1 bt211.2.2.1 bt211.2.2.2.1 bt211.2.2.2.2.1 bt211.2.2.2.2.2.1 bt211.2.2.2.2.2.2.1 bt211.2.2.2.2.2.2.2).bind fun bt220 => (law4A.j0 k bt198.1 bt198.2 bt201.1 bt201.2.1 bt201.2.2.1 bt201.2.2.2.1 bt201.2.2.2.2.1 bt201.2.2.2.2.2.1 bt201.2.2.2.2.2.2.1 bt201.2.2.2.2.2.2.2 bt220.1 bt220.2.1 bt220.2.2.1 bt220.2.2.2.1 bt220.2.2.2.2.1 bt220.2.2.2.2.2.1 bt220.2.2.2.2.2.2.1 bt220.2.2.2.2.2.2.2)) else (law4A.j0 k bt198.1 bt198.2 bt201.1 bt201.2.1 bt201.2.2.1 bt201.2.2.2.1 bt201.2.2.2.2.1 bt201.2.2.2.2.2.1 bt201.2.2.2.2.2.2.1 bt201.2.2.2.2.2.2.2 bt211.1 bt211.2.1 bt211.2.2.1 bt211.2.2.2.1 bt211.2.2.2.2.1 bt211.2.2.2.2.2.1 bt211.2.2.2.2.2.2.1 bt211.2.2.2.2.2.2.2))) else ((offertorylaw28_awake.f k).bind fun t210 => (if t210 = true then (if bt198.2 = 4 then (some (bt198.1 == 0)) else (none)) else (none))))))) = some r := h
 clear h
 replace H := Option.bind_eq_some_iff.mp H
 obtain ⟨⟨t198, t199⟩, A20, H⟩ := H
 (try dsimp only at H)
 have A2 := Aside0.mk A20
 clear A20
 by_cases c3 : a0_1 < 1
 ·
  rw [if_pos c3] at H
  have c3b0 : decide (a0_1 < 1) = true := decide_eq_true c3
  clear c3
  replace H := Option.bind_eq_some_iff.mp H
  obtain ⟨t200, A40, H⟩ := H
  (try dsimp only at H)
  have A4 := Aside0.mk A40
  clear A40
  by_cases c5 : t200 = true
  ·
   subst c5
   have H1 : (if t199 = 1 then (some (t198 == 0)) else (none)) = some r := by rw [if_pos rfl] at H; exact H
   clear H
   have H := H1
   clear H1
   by_cases c6 : t199 = 1
   ·
    rw [if_pos c6] at H
    have c6b0 : (t199 == 1) = true := beq_iff_eq.mpr c6
    have c6b1 : (t199 != 1) = false := bne_eq_false_iff_eq.mpr c6
    clear c6
    obtain rfl := Option.some.inj H
    go_enter Try.func4, Try.ntmps4
    go_wp2_with (first | ((with_reducible refine gate_dst (N := 1) rfl ?_); refine box_event ?hg (N := 1) ?hd (cs := #[.slice A0_0 l0_0.length c0_0, .int .i64 a0_1, .int .u64 a0_2, .int .u64 a0_3, .int .u64 a0_4, .int .u64 a0_5, .bool a0_6]) (t := 36) ?hr ?_; (case hd => rfl); (case hg => rfl); (case hr => first | (go_simp; done) | (go_simp; rfl)); intro gb197 hg w7 hbox hb; have n0_ := Aside0.mk (below_step (by repeat (first | (with_reducible first | exact HB.out | apply below_alloc | apply pw_below_drewN | apply below_drew1) | exact HB.out)) hb); have n1_ := Aside0.mk (hbox); have n2_ := Aside0.mk ((by rw [hg]; exact (below_size (by repeat (first | (with_reducible first | exact HB.out | apply below_alloc | apply pw_below_drewN | apply below_drew1) | exact HB.out))) : w.heap.size ≤ gb197)); have n3_ := Aside0.mk ((by rw [hg]; exact (below_size (by repeat (first | (with_reducible first | exact HB.out | apply below_alloc | apply pw_below_drewN | apply below_drew1) | exact HB.out))) : w.heap.size ≤ gb197)); clear HB; have HB := n0_; have BK197 := n1_; have GW197 := n2_; have GE197 := n3_; clear n0_ n1_ n2_ n3_; clear hb hbox hg; have hcz8_0 : w7.cell? ⟨gb197, 0, none⟩ = some (.slice A0_0 l0_0.length c0_0) := (blk_cell BK197.out 0).trans rfl; have hcz8_1 : w7.cell? ⟨gb197, 1, none⟩ = some (.int .i64 a0_1) := (blk_cell BK197.out 1).trans rfl; have hcz8_2 : w7.cell? ⟨gb197, 2, none⟩ = some (.int .u64 a0_2) := (blk_cell BK197.out 2).trans rfl; have hcz8_3 : w7.cell? ⟨gb197, 3, none⟩ = some (.int .u64 a0_3) := (blk_cell BK197.out 3).trans rfl; have hcz8_4 : w7.cell? ⟨gb197, 4, none⟩ = some (.int .u64 a0_4) := (blk_cell BK197.out 4).trans rfl; have hcz8_5 : w7.cell? ⟨gb197, 5, none⟩ = some (.int .u64 a0_5) := (blk_cell BK197.out 5).trans rfl; have hcz8_6 : w7.cell? ⟨gb197, 6, none⟩ = some (.bool a0_6) := (blk_cell BK197.out 6).trans rfl; have hfz8_0 := blk_frozen BK197.out 0; have hfz8_1 := blk_frozen BK197.out 1; have hfz8_2 := blk_frozen BK197.out 2; have hfz8_3 := blk_frozen BK197.out 3; have hfz8_4 := blk_frozen BK197.out 4; have hfz8_5 := blk_frozen BK197.out 5; have hfz8_6 := blk_frozen BK197.out 6) | ((with_reducible refine gate_callee (f := 10) rfl ?_); refine goesL_ (some 20) rfl rfl Try.func10 (by kernel_rfl) rfl #[.agg #[.slice A0_0 l0_0.length c0_0, .int .i64 a0_1, .int .u64 a0_2, .int .u64 a0_3, .int .u64 a0_4, .int .u64 a0_5, .bool a0_6]] rfl (by (try simp only [List.map_toArray, List.map_cons, List.map_nil]); first | done | rfl | (simp only [List.length_drop, List.length_take]; rfl)) ?_; (with_reducible refine (rank_Mean.calls k _ _ l0_0 a0_1 a0_2 a0_3 a0_4 a0_5 a0_6 t198 t199 _ ?side1 ?side2 A2.out).mono ?_); (case side1 => repeat (first | exact (Kd.C_below HR0_0.out HB.out) | (with_reducible refine Kd.C_alloc ?_ _) | (with_reducible refine Kd.C_drewN ?_ _) | (with_reducible refine Kd.C_drew ?_))); (case side2 => exact HC0_0.out); rintro e w9 ⟨rfl, hb⟩; refine ⟨_, rfl, ?_⟩; have n0_ := law4A.keepB BK197 hb; have n1_ := Aside0.mk (below_step (by repeat (first | (with_reducible first | exact HB.out | apply below_alloc | apply pw_below_drewN | apply below_drew1 | refine below_set ?_ GE197.out) | exact HB.out)) hb); clear BK197; clear HB; have BK197 := n0_; have HB := n1_; clear n0_ n1_; (try clear hb); (try clear hb2); (try clear hk); (try clear hi); have hcz10_0 : w9.cell? ⟨gb197, 0, none⟩ = some (.slice A0_0 l0_0.length c0_0) := (blk_cell BK197.out 0).trans rfl; have hcz10_1 : w9.cell? ⟨gb197, 1, none⟩ = some (.int .i64 a0_1) := (blk_cell BK197.out 1).trans rfl; have hcz10_2 : w9.cell? ⟨gb197, 2, none⟩ = some (.int .u64 a0_2) := (blk_cell BK197.out 2).trans rfl; have hcz10_3 : w9.cell? ⟨gb197, 3, none⟩ = some (.int .u64 a0_3) := (blk_cell BK197.out 3).trans rfl; have hcz10_4 : w9.cell? ⟨gb197, 4, none⟩ = some (.int .u64 a0_4) := (blk_cell BK197.out 4).trans rfl; have hcz10_5 : w9.cell? ⟨gb197, 5, none⟩ = some (.int .u64 a0_5) := (blk_cell BK197.out 5).trans rfl; have hcz10_6 : w9.cell? ⟨gb197, 6, none⟩ = some (.bool a0_6) := (blk_cell BK197.out 6).trans rfl; have hfz10_0 := blk_frozen BK197.out 0; have hfz10_1 := blk_frozen BK197.out 1; have hfz10_2 := blk_frozen BK197.out 2; have hfz10_3 := blk_frozen BK197.out 3; have hfz10_4 := blk_frozen BK197.out 4; have hfz10_5 := blk_frozen BK197.out 5; have hfz10_6 := blk_frozen BK197.out 6) | ((with_reducible refine gate_callee (f := 8) rfl ?_); refine goesL_ (some 26) rfl rfl Try.func8 (by kernel_rfl) rfl #[] rfl (by (try simp only [List.map_toArray, List.map_cons, List.map_nil]); first | done | rfl | (simp only [List.length_drop, List.length_take]; rfl)) ?_; (with_reducible refine (offertorylaw28_awake.calls k  true _ A4.out).mono ?_); rintro e w11 ⟨rfl, hb⟩; refine ⟨_, rfl, ?_⟩; have n0_ := law4A.keepB BK197 hb; have n1_ := Aside0.mk (below_step (by repeat (first | (with_reducible first | exact HB.out | apply below_alloc | apply pw_below_drewN | apply below_drew1 | refine below_set ?_ GE197.out) | exact HB.out)) hb); clear BK197; clear HB; have BK197 := n0_; have HB := n1_; clear n0_ n1_; (try clear hb); (try clear hb2); (try clear hk); (try clear hi)))
    go_ret
    exact ⟨by first | rfl | (simp [errW_none, errW_some] <;> rfl) | (simp [*, errW_none, errW_some] <;> rfl), by repeat (first | (with_reducible first | exact HB.out | apply below_alloc | apply pw_below_drewN | apply below_drew1 | refine below_set ?_ GE197.out) | exact HB.out)⟩
   ·
    rw [if_neg c6] at H
    exact absurd H (by simp)
  ·
   replace c5 := Bool.eq_false_iff.mpr c5
   subst c5
   have H1 : (none) = some r := by rw [if_neg (show ¬ (false = true) by decide)] at H; exact H
   clear H
   have H := H1
   clear H1
   exact absurd H (by simp)
 ·
  rw [if_neg c3] at H
  have c3b0 : decide (a0_1 < 1) = false := decide_eq_false c3
  clear c3
  replace H := Option.bind_eq_some_iff.mp H
  obtain ⟨⟨t201, t202, t203, t204, t205, t206, t207, t208⟩, A120, H⟩ := H
  (try dsimp only at H)
  have A12 := Aside0.mk A120
  clear A120
  by_cases c13 : (a0_2 / 4611686018427387904) = 0
  ·
   rw [if_pos c13] at H
   have c13b0 : ((a0_2 / 4611686018427387904) == 0) = true := beq_iff_eq.mpr c13
   have c13b1 : ((a0_2 / 4611686018427387904) != 0) = false := bne_eq_false_iff_eq.mpr c13
   clear c13
   replace H := Option.bind_eq_some_iff.mp H
   obtain ⟨⟨t211, t212, t213, t214, t215, t216, t217, t218⟩, A140, H⟩ := H
   (try dsimp only at H)
   have A14 := Aside0.mk A140
   clear A140
   have HC15 := Aside0.mk H
   clear H
   go_enter Try.func4, Try.ntmps4
   go_upto_if 56 with (first | ((with_reducible refine gate_dst (N := 1) rfl ?_); refine box_event ?hg (N := 1) ?hd (cs := #[.slice A0_0 l0_0.length c0_0, .int .i64 a0_1, .int .u64 a0_2, .int .u64 a0_3, .int .u64 a0_4, .int .u64 a0_5, .bool a0_6]) (t := 36) ?hr ?_; (case hd => rfl); (case hg => rfl); (case hr => first | (go_simp; done) | (go_simp; rfl)); intro gb197 hg w16 hbox hb; have n0_ := Aside0.mk (below_step (by repeat (first | (with_reducible first | exact HB.out | apply below_alloc | apply pw_below_drewN | apply below_drew1) | exact HB.out)) hb); have n1_ := Aside0.mk (hbox); have n2_ := Aside0.mk ((by rw [hg]; exact (below_size (by repeat (first | (with_reducible first | exact HB.out | apply below_alloc | apply pw_below_drewN | apply below_drew1) | exact HB.out))) : w.heap.size ≤ gb197)); have n3_ := Aside0.mk ((by rw [hg]; exact (below_size (by repeat (first | (with_reducible first | exact HB.out | apply below_alloc | apply pw_below_drewN | apply below_drew1) | exact HB.out))) : w.heap.size ≤ gb197)); clear HB; have HB := n0_; have BK197 := n1_; have GW197 := n2_; have GE197 := n3_; clear n0_ n1_ n2_ n3_; clear hb hbox hg; have hcz17_0 : w16.cell? ⟨gb197, 0, none⟩ = some (.slice A0_0 l0_0.length c0_0) := (blk_cell BK197.out 0).trans rfl; have hcz17_1 : w16.cell? ⟨gb197, 1, none⟩ = some (.int .i64 a0_1) := (blk_cell BK197.out 1).trans rfl; have hcz17_2 : w16.cell? ⟨gb197, 2, none⟩ = some (.int .u64 a0_2) := (blk_cell BK197.out 2).trans rfl; have hcz17_3 : w16.cell? ⟨gb197, 3, none⟩ = some (.int .u64 a0_3) := (blk_cell BK197.out 3).trans rfl; have hcz17_4 : w16.cell? ⟨gb197, 4, none⟩ = some (.int .u64 a0_4) := (blk_cell BK197.out 4).trans rfl; have hcz17_5 : w16.cell? ⟨gb197, 5, none⟩ = some (.int .u64 a0_5) := (blk_cell BK197.out 5).trans rfl; have hcz17_6 : w16.cell? ⟨gb197, 6, none⟩ = some (.bool a0_6) := (blk_cell BK197.out 6).trans rfl; have hfz17_0 := blk_frozen BK197.out 0; have hfz17_1 := blk_frozen BK197.out 1; have hfz17_2 := blk_frozen BK197.out 2; have hfz17_3 := blk_frozen BK197.out 3; have hfz17_4 := blk_frozen BK197.out 4; have hfz17_5 := blk_frozen BK197.out 5; have hfz17_6 := blk_frozen BK197.out 6) | ((with_reducible refine gate_callee (f := 10) rfl ?_); refine goesL_ (some 20) rfl rfl Try.func10 (by kernel_rfl) rfl #[.agg #[.slice A0_0 l0_0.length c0_0, .int .i64 a0_1, .int .u64 a0_2, .int .u64 a0_3, .int .u64 a0_4, .int .u64 a0_5, .bool a0_6]] rfl (by (try simp only [List.map_toArray, List.map_cons, List.map_nil]); first | done | rfl | (simp only [List.length_drop, List.length_take]; rfl)) ?_; (with_reducible refine (rank_Mean.calls k _ _ l0_0 a0_1 a0_2 a0_3 a0_4 a0_5 a0_6 t198 t199 _ ?side1 ?side2 A2.out).mono ?_); (case side1 => repeat (first | exact (Kd.C_below HR0_0.out HB.out) | (with_reducible refine Kd.C_alloc ?_ _) | (with_reducible refine Kd.C_drewN ?_ _) | (with_reducible refine Kd.C_drew ?_))); (case side2 => exact HC0_0.out); rintro e w18 ⟨rfl, hb⟩; refine ⟨_, rfl, ?_⟩; have n0_ := law4A.keepB BK197 hb; have n1_ := Aside0.mk (below_step (by repeat (first | (with_reducible first | exact HB.out | apply below_alloc | apply pw_below_drewN | apply below_drew1 | refine below_set ?_ GE197.out) | exact HB.out)) hb); clear BK197; clear HB; have BK197 := n0_; have HB := n1_; clear n0_ n1_; (try clear hb); (try clear hb2); (try clear hk); (try clear hi); have hcz19_0 : w18.cell? ⟨gb197, 0, none⟩ = some (.slice A0_0 l0_0.length c0_0) := (blk_cell BK197.out 0).trans rfl; have hcz19_1 : w18.cell? ⟨gb197, 1, none⟩ = some (.int .i64 a0_1) := (blk_cell BK197.out 1).trans rfl; have hcz19_2 : w18.cell? ⟨gb197, 2, none⟩ = some (.int .u64 a0_2) := (blk_cell BK197.out 2).trans rfl; have hcz19_3 : w18.cell? ⟨gb197, 3, none⟩ = some (.int .u64 a0_3) := (blk_cell BK197.out 3).trans rfl; have hcz19_4 : w18.cell? ⟨gb197, 4, none⟩ = some (.int .u64 a0_4) := (blk_cell BK197.out 4).trans rfl; have hcz19_5 : w18.cell? ⟨gb197, 5, none⟩ = some (.int .u64 a0_5) := (blk_cell BK197.out 5).trans rfl; have hcz19_6 : w18.cell? ⟨gb197, 6, none⟩ = some (.bool a0_6) := (blk_cell BK197.out 6).trans rfl; have hfz19_0 := blk_frozen BK197.out 0; have hfz19_1 := blk_frozen BK197.out 1; have hfz19_2 := blk_frozen BK197.out 2; have hfz19_3 := blk_frozen BK197.out 3; have hfz19_4 := blk_frozen BK197.out 4; have hfz19_5 := blk_frozen BK197.out 5; have hfz19_6 := blk_frozen BK197.out 6) | ((with_reducible refine gate_callee (f := 11) rfl ?_); refine goesL_ (some 37) rfl rfl Try.func11 (by kernel_rfl) rfl #[.int .i64 a0_1] rfl (by (try simp only [List.map_toArray, List.map_cons, List.map_nil]); first | done | rfl | (simp only [List.length_drop, List.length_take]; rfl)) ?_; (with_reducible refine (offertoryref09_Int.calls a0_1 t201 t202 t203 t204 t205 t206 t207 t208 _ A12.out).mono ?_); rintro e w20 ⟨rfl, hb⟩; refine ⟨_, rfl, ?_⟩; have n0_ := law4A.keepB BK197 hb; have n1_ := Aside0.mk (below_step (by repeat (first | (with_reducible first | exact HB.out | apply below_alloc | apply pw_below_drewN | apply below_drew1 | refine below_set ?_ GE197.out) | exact HB.out)) hb); clear BK197; clear HB; have BK197 := n0_; have HB := n1_; clear n0_ n1_; (try clear hb); (try clear hb2); (try clear hk); (try clear hi)) | ((with_reducible refine gate_dst (N := 5) rfl ?_); refine box_event ?hg (N := 5) ?hd (cs := #[.int .u32 0, .int .u32 0, .int .u32 0, .int .u32 0, .int .u32 0, .int .u32 0, .int .u32 0, .int .u32 0]) (t := 41) ?hr ?_; (case hd => rfl); (case hg => rfl); (case hr => first | (go_simp; done) | (go_simp; rfl)); intro gb209 hg w21 hbox hb; have n0_ := law4A.keepB BK197 hb; have n1_ := Aside0.mk (below_step (by repeat (first | (with_reducible first | exact HB.out | apply below_alloc | apply pw_below_drewN | apply below_drew1 | refine below_set ?_ GE197.out) | exact HB.out)) hb); have n2_ := Aside0.mk (hbox); have n3_ := Aside0.mk ((by rw [hg]; exact (below_size (by repeat (first | (with_reducible first | exact HB.out | apply below_alloc | apply pw_below_drewN | apply below_drew1 | refine below_set ?_ GE197.out) | exact HB.out))) : w.heap.size ≤ gb209)); have n4_ := Aside0.mk ((by rw [hg]; exact (below_size (by repeat (first | (with_reducible first | exact HB.out | apply below_alloc | apply pw_below_drewN | apply below_drew1 | refine below_set ?_ GE197.out) | exact HB.out))) : w.heap.size ≤ gb209)); have n5_ := law4A.neL BK197 hg; have n6_ := law4A.neG BK197 hg; clear BK197; clear HB; have BK197 := n0_; have HB := n1_; have BK209 := n2_; have GW209 := n3_; have GE209 := n4_; have NB197_209 := n5_; have NB209_197 := n6_; clear n0_ n1_ n2_ n3_ n4_ n5_ n6_; clear hb hbox hg; have hnb22 := NB209_197.out; have hnc22 := NB197_209.out; have hcz23_0 : w21.cell? ⟨gb209, 0, none⟩ = some (.int .u32 0) := (blk_cell BK209.out 0).trans rfl; have hcz23_1 : w21.cell? ⟨gb209, 1, none⟩ = some (.int .u32 0) := (blk_cell BK209.out 1).trans rfl; have hcz23_2 : w21.cell? ⟨gb209, 2, none⟩ = some (.int .u32 0) := (blk_cell BK209.out 2).trans rfl; have hcz23_3 : w21.cell? ⟨gb209, 3, none⟩ = some (.int .u32 0) := (blk_cell BK209.out 3).trans rfl; have hcz23_4 : w21.cell? ⟨gb209, 4, none⟩ = some (.int .u32 0) := (blk_cell BK209.out 4).trans rfl; have hcz23_5 : w21.cell? ⟨gb209, 5, none⟩ = some (.int .u32 0) := (blk_cell BK209.out 5).trans rfl; have hcz23_6 : w21.cell? ⟨gb209, 6, none⟩ = some (.int .u32 0) := (blk_cell BK209.out 6).trans rfl; have hcz23_7 : w21.cell? ⟨gb209, 7, none⟩ = some (.int .u32 0) := (blk_cell BK209.out 7).trans rfl; have hfz23_0 := blk_frozen BK209.out 0; have hfz23_1 := blk_frozen BK209.out 1; have hfz23_2 := blk_frozen BK209.out 2; have hfz23_3 := blk_frozen BK209.out 3; have hfz23_4 := blk_frozen BK209.out 4; have hfz23_5 := blk_frozen BK209.out 5; have hfz23_6 := blk_frozen BK209.out 6; have hfz23_7 := blk_frozen BK209.out 7; have hcz24_0 : w21.cell? ⟨gb197, 0, none⟩ = some (.slice A0_0 l0_0.length c0_0) := (blk_cell BK197.out 0).trans rfl; have hcz24_1 : w21.cell? ⟨gb197, 1, none⟩ = some (.int .i64 a0_1) := (blk_cell BK197.out 1).trans rfl; have hcz24_2 : w21.cell? ⟨gb197, 2, none⟩ = some (.int .u64 a0_2) := (blk_cell BK197.out 2).trans rfl; have hcz24_3 : w21.cell? ⟨gb197, 3, none⟩ = some (.int .u64 a0_3) := (blk_cell BK197.out 3).trans rfl; have hcz24_4 : w21.cell? ⟨gb197, 4, none⟩ = some (.int .u64 a0_4) := (blk_cell BK197.out 4).trans rfl; have hcz24_5 : w21.cell? ⟨gb197, 5, none⟩ = some (.int .u64 a0_5) := (blk_cell BK197.out 5).trans rfl; have hcz24_6 : w21.cell? ⟨gb197, 6, none⟩ = some (.bool a0_6) := (blk_cell BK197.out 6).trans rfl; have hfz24_0 := blk_frozen BK197.out 0; have hfz24_1 := blk_frozen BK197.out 1; have hfz24_2 := blk_frozen BK197.out 2; have hfz24_3 := blk_frozen BK197.out 3; have hfz24_4 := blk_frozen BK197.out 4; have hfz24_5 := blk_frozen BK197.out 5; have hfz24_6 := blk_frozen BK197.out 6) | ((with_reducible refine gate_callee (f := 12) rfl ?_); refine goesL_ (some 54) rfl rfl Try.func12 (by kernel_rfl) rfl #[.agg #[.int .u64 a0_2, .int .u64 a0_3]] rfl (by (try simp only [List.map_toArray, List.map_cons, List.map_nil]); first | done | rfl | (simp only [List.length_drop, List.length_take]; rfl)) ?_; (with_reducible refine (offertoryref09_Of.calls a0_2 a0_3 t211 t212 t213 t214 t215 t216 t217 t218 _ A14.out).mono ?_); rintro e w25 ⟨rfl, hb⟩; refine ⟨_, rfl, ?_⟩; have n0_ := Aside0.mk (blk_below (g := gb197) (o := .cells #[.slice A0_0 l0_0.length c0_0, .int .i64 a0_1, .int .u64 a0_2, .int .u64 a0_3, .int .u64 a0_4, .int .u64 a0_5, .bool a0_6] 36 (0, 0)) (by (repeat (first | (with_reducible first | refine blk_drewN ?_ _ | refine blk_drew ?_ | refine blk_alloc ?_ _) | refine blk_far ?_ NB197_209.out _)); (with_reducible repeat (first | refine blk_drewN ?_ _ | refine blk_drew ?_ | refine blk_alloc ?_ _)); exact BK197.out) hb); have n1_ := Aside0.mk (blk_below (g := gb209) (o := .cells #[.int .u32 t201, .int .u32 t202, .int .u32 t203, .int .u32 t204, .int .u32 t205, .int .u32 t206, .int .u32 t207, .int .u32 t208] 41 (0, 0)) (by (with_reducible repeat (first | refine blk_drewN ?_ _ | refine blk_drew ?_ | refine blk_alloc ?_ _)); refine blk_put (cs := #[.int .u32 t201, .int .u32 t202, .int .u32 t203, .int .u32 t204, .int .u32 t205, .int .u32 t206, .int .u32 t207, .int .u32 0]) ?_ 7 _ rfl; (with_reducible repeat (first | refine blk_drewN ?_ _ | refine blk_drew ?_ | refine blk_alloc ?_ _)); refine blk_put (cs := #[.int .u32 t201, .int .u32 t202, .int .u32 t203, .int .u32 t204, .int .u32 t205, .int .u32 t206, .int .u32 0, .int .u32 0]) ?_ 6 _ rfl; (with_reducible repeat (first | refine blk_drewN ?_ _ | refine blk_drew ?_ | refine blk_alloc ?_ _)); refine blk_put (cs := #[.int .u32 t201, .int .u32 t202, .int .u32 t203, .int .u32 t204, .int .u32 t205, .int .u32 0, .int .u32 0, .int .u32 0]) ?_ 5 _ rfl; (with_reducible repeat (first | refine blk_drewN ?_ _ | refine blk_drew ?_ | refine blk_alloc ?_ _)); refine blk_put (cs := #[.int .u32 t201, .int .u32 t202, .int .u32 t203, .int .u32 t204, .int .u32 0, .int .u32 0, .int .u32 0, .int .u32 0]) ?_ 4 _ rfl; (with_reducible repeat (first | refine blk_drewN ?_ _ | refine blk_drew ?_ | refine blk_alloc ?_ _)); refine blk_put (cs := #[.int .u32 t201, .int .u32 t202, .int .u32 t203, .int .u32 0, .int .u32 0, .int .u32 0, .int .u32 0, .int .u32 0]) ?_ 3 _ rfl; (with_reducible repeat (first | refine blk_drewN ?_ _ | refine blk_drew ?_ | refine blk_alloc ?_ _)); refine blk_put (cs := #[.int .u32 t201, .int .u32 t202, .int .u32 0, .int .u32 0, .int .u32 0, .int .u32 0, .int .u32 0, .int .u32 0]) ?_ 2 _ rfl; (with_reducible repeat (first | refine blk_drewN ?_ _ | refine blk_drew ?_ | refine blk_alloc ?_ _)); refine blk_put (cs := #[.int .u32 t201, .int .u32 0, .int .u32 0, .int .u32 0, .int .u32 0, .int .u32 0, .int .u32 0, .int .u32 0]) ?_ 1 _ rfl; (with_reducible repeat (first | refine blk_drewN ?_ _ | refine blk_drew ?_ | refine blk_alloc ?_ _)); refine blk_put (cs := #[.int .u32 0, .int .u32 0, .int .u32 0, .int .u32 0, .int .u32 0, .int .u32 0, .int .u32 0, .int .u32 0]) ?_ 0 _ rfl; (with_reducible repeat (first | refine blk_drewN ?_ _ | refine blk_drew ?_ | refine blk_alloc ?_ _)); exact BK209.out) hb); have n2_ := Aside0.mk (below_step (by repeat (first | (with_reducible first | exact HB.out | apply below_alloc | apply pw_below_drewN | apply below_drew1 | refine below_set ?_ GE197.out | refine below_set ?_ GE209.out) | exact HB.out)) hb); clear BK197; clear BK209; clear HB; have BK197 := n0_; have BK209 := n1_; have HB := n2_; clear n0_ n1_ n2_; (try clear hb); (try clear hb2); (try clear hk); (try clear hi)) | ((with_reducible refine gate_dst (N := 6) rfl ?_); refine box_event ?hg (N := 6) ?hd (cs := #[.int .u32 0, .int .u32 0, .int .u32 0, .int .u32 0, .int .u32 0, .int .u32 0, .int .u32 0, .int .u32 0]) (t := 41) ?hr ?_; (case hd => rfl); (case hg => rfl); (case hr => first | (go_simp; done) | (go_simp; rfl)); intro gb219 hg w26 hbox hb; have n0_ := law4A.keepB BK197 hb; have n1_ := law4A.keepB BK209 hb; have n2_ := Aside0.mk (below_step (by repeat (first | (with_reducible first | exact HB.out | apply below_alloc | apply pw_below_drewN | apply below_drew1 | refine below_set ?_ GE197.out | refine below_set ?_ GE209.out) | exact HB.out)) hb); have n3_ := Aside0.mk (hbox); have n4_ := Aside0.mk ((by rw [hg]; exact (below_size (by repeat (first | (with_reducible first | exact HB.out | apply below_alloc | apply pw_below_drewN | apply below_drew1 | refine below_set ?_ GE197.out | refine below_set ?_ GE209.out) | exact HB.out))) : w.heap.size ≤ gb219)); have n5_ := Aside0.mk ((by rw [hg]; exact (below_size (by repeat (first | (with_reducible first | exact HB.out | apply below_alloc | apply pw_below_drewN | apply below_drew1 | refine below_set ?_ GE197.out | refine below_set ?_ GE209.out) | exact HB.out))) : w.heap.size ≤ gb219)); have n6_ := law4A.neL BK197 hg; have n7_ := law4A.neG BK197 hg; have n8_ := law4A.neL BK209 hg; have n9_ := law4A.neG BK209 hg; clear BK197; clear BK209; clear HB; have BK197 := n0_; have BK209 := n1_; have HB := n2_; have BK219 := n3_; have GW219 := n4_; have GE219 := n5_; have NB197_219 := n6_; have NB219_197 := n7_; have NB209_219 := n8_; have NB219_209 := n9_; clear n0_ n1_ n2_ n3_ n4_ n5_ n6_ n7_ n8_ n9_; clear hb hbox hg; have hnb27 := NB219_197.out; have hnc27 := NB197_219.out; have hnb28 := NB219_209.out; have hnc28 := NB209_219.out; have hcz29_0 : w26.cell? ⟨gb219, 0, none⟩ = some (.int .u32 0) := (blk_cell BK219.out 0).trans rfl; have hcz29_1 : w26.cell? ⟨gb219, 1, none⟩ = some (.int .u32 0) := (blk_cell BK219.out 1).trans rfl; have hcz29_2 : w26.cell? ⟨gb219, 2, none⟩ = some (.int .u32 0) := (blk_cell BK219.out 2).trans rfl; have hcz29_3 : w26.cell? ⟨gb219, 3, none⟩ = some (.int .u32 0) := (blk_cell BK219.out 3).trans rfl; have hcz29_4 : w26.cell? ⟨gb219, 4, none⟩ = some (.int .u32 0) := (blk_cell BK219.out 4).trans rfl; have hcz29_5 : w26.cell? ⟨gb219, 5, none⟩ = some (.int .u32 0) := (blk_cell BK219.out 5).trans rfl; have hcz29_6 : w26.cell? ⟨gb219, 6, none⟩ = some (.int .u32 0) := (blk_cell BK219.out 6).trans rfl; have hcz29_7 : w26.cell? ⟨gb219, 7, none⟩ = some (.int .u32 0) := (blk_cell BK219.out 7).trans rfl; have hfz29_0 := blk_frozen BK219.out 0; have hfz29_1 := blk_frozen BK219.out 1; have hfz29_2 := blk_frozen BK219.out 2; have hfz29_3 := blk_frozen BK219.out 3; have hfz29_4 := blk_frozen BK219.out 4; have hfz29_5 := blk_frozen BK219.out 5; have hfz29_6 := blk_frozen BK219.out 6; have hfz29_7 := blk_frozen BK219.out 7; have hcz30_0 : w26.cell? ⟨gb197, 0, none⟩ = some (.slice A0_0 l0_0.length c0_0) := (blk_cell BK197.out 0).trans rfl; have hcz30_1 : w26.cell? ⟨gb197, 1, none⟩ = some (.int .i64 a0_1) := (blk_cell BK197.out 1).trans rfl; have hcz30_2 : w26.cell? ⟨gb197, 2, none⟩ = some (.int .u64 a0_2) := (blk_cell BK197.out 2).trans rfl; have hcz30_3 : w26.cell? ⟨gb197, 3, none⟩ = some (.int .u64 a0_3) := (blk_cell BK197.out 3).trans rfl; have hcz30_4 : w26.cell? ⟨gb197, 4, none⟩ = some (.int .u64 a0_4) := (blk_cell BK197.out 4).trans rfl; have hcz30_5 : w26.cell? ⟨gb197, 5, none⟩ = some (.int .u64 a0_5) := (blk_cell BK197.out 5).trans rfl; have hcz30_6 : w26.cell? ⟨gb197, 6, none⟩ = some (.bool a0_6) := (blk_cell BK197.out 6).trans rfl; have hfz30_0 := blk_frozen BK197.out 0; have hfz30_1 := blk_frozen BK197.out 1; have hfz30_2 := blk_frozen BK197.out 2; have hfz30_3 := blk_frozen BK197.out 3; have hfz30_4 := blk_frozen BK197.out 4; have hfz30_5 := blk_frozen BK197.out 5; have hfz30_6 := blk_frozen BK197.out 6))
   (try simp only [Act.put, List.setIfInBounds_toArray, List.set_cons_zero, List.set_cons_succ])
   go_cut [] (fun wc => ∃ (kq : Nat) (x220000_14 : Int) (x220001_14 : Int) (x220002_14 : Int) (x220003_14 : Int) (x220004_14 : Int) (x220005_14 : Int) (x220006_14 : Int) (x220007_14 : Int), Aside0 (law4A.j0 kq t198 t199 t201 t202 t203 t204 t205 t206 t207 t208 x220000_14 x220001_14 x220002_14 x220003_14 x220004_14 x220005_14 x220006_14 x220007_14 = some r) ∧ Aside0 (kq ≤ k) ∧ Aside0 (wc.heap[gb197]? = some (.cells #[(.slice A0_0 l0_0.length c0_0), .int .i64 a0_1, .int .u64 a0_2, .int .u64 a0_3, .int .u64 a0_4, .int .u64 a0_5, .bool a0_6] 36 (0, 0))) ∧ Aside0 (wc.heap[gb209]? = some (.cells #[.int .u32 t201, .int .u32 t202, .int .u32 t203, .int .u32 t204, .int .u32 t205, .int .u32 t206, .int .u32 t207, .int .u32 t208] 41 (0, 0))) ∧ Aside0 (wc.heap[gb219]? = some (.cells #[.int .u32 x220000_14, .int .u32 x220001_14, .int .u32 x220002_14, .int .u32 x220003_14, .int .u32 x220004_14, .int .u32 x220005_14, .int .u32 x220006_14, .int .u32 x220007_14] 41 (0, 0))) ∧ Aside0 (Below w.heap.size w wc))
   case first =>
    have H := HC15.out
    clear HC15
    by_cases c31 : a0_6 = true
    ·
     subst c31
     have H1 : ((offertoryref09_Neg.f t211 t212 t213 t214 t215 t216 t217 t218).bind fun bt220 => (law4A.j0 k t198 t199 t201 t202 t203 t204 t205 t206 t207 t208 bt220.1 bt220.2.1 bt220.2.2.1 bt220.2.2.2.1 bt220.2.2.2.2.1 bt220.2.2.2.2.2.1 bt220.2.2.2.2.2.2.1 bt220.2.2.2.2.2.2.2)) = some r := by rw [if_pos rfl] at H; exact H
     clear H
     have H := H1
     clear H1
     replace H := Option.bind_eq_some_iff.mp H
     obtain ⟨⟨t220, t221, t222, t223, t224, t225, t226, t227⟩, A320, H⟩ := H
     (try dsimp only at H)
     have A32 := Aside0.mk A320
     clear A320
     have H' := Aside0.mk H
     clear H
     have hnb33 := NB219_197.out
     have hnc33 := NB197_219.out
     have hnb34 := NB219_209.out
     have hnc34 := NB209_219.out
     have hcz35_0 : w26.cell? ⟨gb219, 0, none⟩ = some (.int .u32 0) := (blk_cell BK219.out 0).trans rfl
     have hcz35_1 : w26.cell? ⟨gb219, 1, none⟩ = some (.int .u32 0) := (blk_cell BK219.out 1).trans rfl
     have hcz35_2 : w26.cell? ⟨gb219, 2, none⟩ = some (.int .u32 0) := (blk_cell BK219.out 2).trans rfl
     have hcz35_3 : w26.cell? ⟨gb219, 3, none⟩ = some (.int .u32 0) := (blk_cell BK219.out 3).trans rfl
     have hcz35_4 : w26.cell? ⟨gb219, 4, none⟩ = some (.int .u32 0) := (blk_cell BK219.out 4).trans rfl
     have hcz35_5 : w26.cell? ⟨gb219, 5, none⟩ = some (.int .u32 0) := (blk_cell BK219.out 5).trans rfl
     have hcz35_6 : w26.cell? ⟨gb219, 6, none⟩ = some (.int .u32 0) := (blk_cell BK219.out 6).trans rfl
     have hcz35_7 : w26.cell? ⟨gb219, 7, none⟩ = some (.int .u32 0) := (blk_cell BK219.out 7).trans rfl
     have hfz35_0 := blk_frozen BK219.out 0
     have hfz35_1 := blk_frozen BK219.out 1
     have hfz35_2 := blk_frozen BK219.out 2
     have hfz35_3 := blk_frozen BK219.out 3
     have hfz35_4 := blk_frozen BK219.out 4
     have hfz35_5 := blk_frozen BK219.out 5
     have hfz35_6 := blk_frozen BK219.out 6
     have hfz35_7 := blk_frozen BK219.out 7
     go_wp2_with (first | ((with_reducible refine gate_callee (f := 13) rfl ?_); refine goesL_ (some 58) rfl rfl Try.func13 (by kernel_rfl) rfl #[.agg #[.int .u32 t211, .int .u32 t212, .int .u32 t213, .int .u32 t214, .int .u32 t215, .int .u32 t216, .int .u32 t217, .int .u32 t218]] rfl (by (try simp only [List.map_toArray, List.map_cons, List.map_nil]); first | done | rfl | (simp only [List.length_drop, List.length_take]; rfl)) ?_; (with_reducible refine (offertoryref09_Neg.calls t211 t212 t213 t214 t215 t216 t217 t218 t220 t221 t222 t223 t224 t225 t226 t227 _ A32.out).mono ?_); rintro e w36 ⟨rfl, hb⟩; refine ⟨_, rfl, ?_⟩; have n0_ := Aside0.mk (blk_below (g := gb197) (o := .cells #[.slice A0_0 l0_0.length c0_0, .int .i64 a0_1, .int .u64 a0_2, .int .u64 a0_3, .int .u64 a0_4, .int .u64 a0_5, .bool true] 36 (0, 0)) (by (repeat (first | (with_reducible first | refine blk_drewN ?_ _ | refine blk_drew ?_ | refine blk_alloc ?_ _) | refine blk_far ?_ NB197_219.out _)); (with_reducible repeat (first | refine blk_drewN ?_ _ | refine blk_drew ?_ | refine blk_alloc ?_ _)); exact BK197.out) hb); have n1_ := Aside0.mk (blk_below (g := gb209) (o := .cells #[.int .u32 t201, .int .u32 t202, .int .u32 t203, .int .u32 t204, .int .u32 t205, .int .u32 t206, .int .u32 t207, .int .u32 t208] 41 (0, 0)) (by (repeat (first | (with_reducible first | refine blk_drewN ?_ _ | refine blk_drew ?_ | refine blk_alloc ?_ _) | refine blk_far ?_ NB209_219.out _)); (with_reducible repeat (first | refine blk_drewN ?_ _ | refine blk_drew ?_ | refine blk_alloc ?_ _)); exact BK209.out) hb); have n2_ := Aside0.mk (blk_below (g := gb219) (o := .cells #[.int .u32 t211, .int .u32 t212, .int .u32 t213, .int .u32 t214, .int .u32 t215, .int .u32 t216, .int .u32 t217, .int .u32 t218] 41 (0, 0)) (by (with_reducible repeat (first | refine blk_drewN ?_ _ | refine blk_drew ?_ | refine blk_alloc ?_ _)); refine blk_put (cs := #[.int .u32 t211, .int .u32 t212, .int .u32 t213, .int .u32 t214, .int .u32 t215, .int .u32 t216, .int .u32 t217, .int .u32 0]) ?_ 7 _ rfl; (with_reducible repeat (first | refine blk_drewN ?_ _ | refine blk_drew ?_ | refine blk_alloc ?_ _)); refine blk_put (cs := #[.int .u32 t211, .int .u32 t212, .int .u32 t213, .int .u32 t214, .int .u32 t215, .int .u32 t216, .int .u32 0, .int .u32 0]) ?_ 6 _ rfl; (with_reducible repeat (first | refine blk_drewN ?_ _ | refine blk_drew ?_ | refine blk_alloc ?_ _)); refine blk_put (cs := #[.int .u32 t211, .int .u32 t212, .int .u32 t213, .int .u32 t214, .int .u32 t215, .int .u32 0, .int .u32 0, .int .u32 0]) ?_ 5 _ rfl; (with_reducible repeat (first | refine blk_drewN ?_ _ | refine blk_drew ?_ | refine blk_alloc ?_ _)); refine blk_put (cs := #[.int .u32 t211, .int .u32 t212, .int .u32 t213, .int .u32 t214, .int .u32 0, .int .u32 0, .int .u32 0, .int .u32 0]) ?_ 4 _ rfl; (with_reducible repeat (first | refine blk_drewN ?_ _ | refine blk_drew ?_ | refine blk_alloc ?_ _)); refine blk_put (cs := #[.int .u32 t211, .int .u32 t212, .int .u32 t213, .int .u32 0, .int .u32 0, .int .u32 0, .int .u32 0, .int .u32 0]) ?_ 3 _ rfl; (with_reducible repeat (first | refine blk_drewN ?_ _ | refine blk_drew ?_ | refine blk_alloc ?_ _)); refine blk_put (cs := #[.int .u32 t211, .int .u32 t212, .int .u32 0, .int .u32 0, .int .u32 0, .int .u32 0, .int .u32 0, .int .u32 0]) ?_ 2 _ rfl; (with_reducible repeat (first | refine blk_drewN ?_ _ | refine blk_drew ?_ | refine blk_alloc ?_ _)); refine blk_put (cs := #[.int .u32 t211, .int .u32 0, .int .u32 0, .int .u32 0, .int .u32 0, .int .u32 0, .int .u32 0, .int .u32 0]) ?_ 1 _ rfl; (with_reducible repeat (first | refine blk_drewN ?_ _ | refine blk_drew ?_ | refine blk_alloc ?_ _)); refine blk_put (cs := #[.int .u32 0, .int .u32 0, .int .u32 0, .int .u32 0, .int .u32 0, .int .u32 0, .int .u32 0, .int .u32 0]) ?_ 0 _ rfl; (with_reducible repeat (first | refine blk_drewN ?_ _ | refine blk_drew ?_ | refine blk_alloc ?_ _)); exact BK219.out) hb); have n3_ := Aside0.mk (below_step (by repeat (first | (with_reducible first | exact HB.out | apply below_alloc | apply pw_below_drewN | apply below_drew1 | refine below_set ?_ GE197.out | refine below_set ?_ GE209.out | refine below_set ?_ GE219.out) | exact HB.out)) hb); clear BK197; clear BK209; clear BK219; clear HB; have BK197 := n0_; have BK209 := n1_; have BK219 := n2_; have HB := n3_; clear n0_ n1_ n2_ n3_; (try clear hb); (try clear hb2); (try clear hk); (try clear hi); have hcz37_0 : w36.cell? ⟨gb219, 0, none⟩ = some (.int .u32 t211) := (blk_cell BK219.out 0).trans rfl; have hcz37_1 : w36.cell? ⟨gb219, 1, none⟩ = some (.int .u32 t212) := (blk_cell BK219.out 1).trans rfl; have hcz37_2 : w36.cell? ⟨gb219, 2, none⟩ = some (.int .u32 t213) := (blk_cell BK219.out 2).trans rfl; have hcz37_3 : w36.cell? ⟨gb219, 3, none⟩ = some (.int .u32 t214) := (blk_cell BK219.out 3).trans rfl; have hcz37_4 : w36.cell? ⟨gb219, 4, none⟩ = some (.int .u32 t215) := (blk_cell BK219.out 4).trans rfl; have hcz37_5 : w36.cell? ⟨gb219, 5, none⟩ = some (.int .u32 t216) := (blk_cell BK219.out 5).trans rfl; have hcz37_6 : w36.cell? ⟨gb219, 6, none⟩ = some (.int .u32 t217) := (blk_cell BK219.out 6).trans rfl; have hcz37_7 : w36.cell? ⟨gb219, 7, none⟩ = some (.int .u32 t218) := (blk_cell BK219.out 7).trans rfl; have hfz37_0 := blk_frozen BK219.out 0; have hfz37_1 := blk_frozen BK219.out 1; have hfz37_2 := blk_frozen BK219.out 2; have hfz37_3 := blk_frozen BK219.out 3; have hfz37_4 := blk_frozen BK219.out 4; have hfz37_5 := blk_frozen BK219.out 5; have hfz37_6 := blk_frozen BK219.out 6; have hfz37_7 := blk_frozen BK219.out 7))
     go_meet
     case rel => exact ⟨_, (t220), (t221), (t222), (t223), (t224), (t225), (t226), (t227), H', ⟨by first | omega | exact Nat.le_refl _⟩, ⟨by (repeat (first | (with_reducible first | refine blk_drewN ?_ _ | refine blk_drew ?_ | refine blk_alloc ?_ _) | refine blk_far ?_ NB197_219.out _)); (with_reducible repeat (first | refine blk_drewN ?_ _ | refine blk_drew ?_ | refine blk_alloc ?_ _)); exact BK197.out⟩, ⟨by (repeat (first | (with_reducible first | refine blk_drewN ?_ _ | refine blk_drew ?_ | refine blk_alloc ?_ _) | refine blk_far ?_ NB209_219.out _)); (with_reducible repeat (first | refine blk_drewN ?_ _ | refine blk_drew ?_ | refine blk_alloc ?_ _)); exact BK209.out⟩, ⟨by (with_reducible repeat (first | refine blk_drewN ?_ _ | refine blk_drew ?_ | refine blk_alloc ?_ _)); refine blk_put (cs := #[.int .u32 t220, .int .u32 t221, .int .u32 t222, .int .u32 t223, .int .u32 t224, .int .u32 t225, .int .u32 t226, .int .u32 t218]) ?_ 7 _ rfl; (with_reducible repeat (first | refine blk_drewN ?_ _ | refine blk_drew ?_ | refine blk_alloc ?_ _)); refine blk_put (cs := #[.int .u32 t220, .int .u32 t221, .int .u32 t222, .int .u32 t223, .int .u32 t224, .int .u32 t225, .int .u32 t217, .int .u32 t218]) ?_ 6 _ rfl; (with_reducible repeat (first | refine blk_drewN ?_ _ | refine blk_drew ?_ | refine blk_alloc ?_ _)); refine blk_put (cs := #[.int .u32 t220, .int .u32 t221, .int .u32 t222, .int .u32 t223, .int .u32 t224, .int .u32 t216, .int .u32 t217, .int .u32 t218]) ?_ 5 _ rfl; (with_reducible repeat (first | refine blk_drewN ?_ _ | refine blk_drew ?_ | refine blk_alloc ?_ _)); refine blk_put (cs := #[.int .u32 t220, .int .u32 t221, .int .u32 t222, .int .u32 t223, .int .u32 t215, .int .u32 t216, .int .u32 t217, .int .u32 t218]) ?_ 4 _ rfl; (with_reducible repeat (first | refine blk_drewN ?_ _ | refine blk_drew ?_ | refine blk_alloc ?_ _)); refine blk_put (cs := #[.int .u32 t220, .int .u32 t221, .int .u32 t222, .int .u32 t214, .int .u32 t215, .int .u32 t216, .int .u32 t217, .int .u32 t218]) ?_ 3 _ rfl; (with_reducible repeat (first | refine blk_drewN ?_ _ | refine blk_drew ?_ | refine blk_alloc ?_ _)); refine blk_put (cs := #[.int .u32 t220, .int .u32 t221, .int .u32 t213, .int .u32 t214, .int .u32 t215, .int .u32 t216, .int .u32 t217, .int .u32 t218]) ?_ 2 _ rfl; (with_reducible repeat (first | refine blk_drewN ?_ _ | refine blk_drew ?_ | refine blk_alloc ?_ _)); refine blk_put (cs := #[.int .u32 t220, .int .u32 t212, .int .u32 t213, .int .u32 t214, .int .u32 t215, .int .u32 t216, .int .u32 t217, .int .u32 t218]) ?_ 1 _ rfl; (with_reducible repeat (first | refine blk_drewN ?_ _ | refine blk_drew ?_ | refine blk_alloc ?_ _)); refine blk_put (cs := #[.int .u32 t211, .int .u32 t212, .int .u32 t213, .int .u32 t214, .int .u32 t215, .int .u32 t216, .int .u32 t217, .int .u32 t218]) ?_ 0 _ rfl; (with_reducible repeat (first | refine blk_drewN ?_ _ | refine blk_drew ?_ | refine blk_alloc ?_ _)); exact BK219.out⟩, ⟨by repeat (first | (with_reducible first | exact HB.out | apply below_alloc | apply pw_below_drewN | apply below_drew1 | refine below_set ?_ GE197.out | refine below_set ?_ GE209.out | refine below_set ?_ GE219.out) | exact HB.out)⟩⟩
    ·
     replace c31 := Bool.eq_false_iff.mpr c31
     subst c31
     have H1 : (law4A.j0 k t198 t199 t201 t202 t203 t204 t205 t206 t207 t208 t211 t212 t213 t214 t215 t216 t217 t218) = some r := by rw [if_neg (show ¬ (false = true) by decide)] at H; exact H
     clear H
     have H := H1
     clear H1
     have H' := Aside0.mk H
     clear H
     go_wp2
     go_meet
     case rel => exact ⟨_, (t211), (t212), (t213), (t214), (t215), (t216), (t217), (t218), H', ⟨by first | omega | exact Nat.le_refl _⟩, ⟨by (repeat (first | (with_reducible first | refine blk_drewN ?_ _ | refine blk_drew ?_ | refine blk_alloc ?_ _) | refine blk_far ?_ NB197_219.out _)); (with_reducible repeat (first | refine blk_drewN ?_ _ | refine blk_drew ?_ | refine blk_alloc ?_ _)); exact BK197.out⟩, ⟨by (repeat (first | (with_reducible first | refine blk_drewN ?_ _ | refine blk_drew ?_ | refine blk_alloc ?_ _) | refine blk_far ?_ NB209_219.out _)); (with_reducible repeat (first | refine blk_drewN ?_ _ | refine blk_drew ?_ | refine blk_alloc ?_ _)); exact BK209.out⟩, ⟨by (with_reducible repeat (first | refine blk_drewN ?_ _ | refine blk_drew ?_ | refine blk_alloc ?_ _)); refine blk_put (cs := #[.int .u32 t211, .int .u32 t212, .int .u32 t213, .int .u32 t214, .int .u32 t215, .int .u32 t216, .int .u32 t217, .int .u32 0]) ?_ 7 _ rfl; (with_reducible repeat (first | refine blk_drewN ?_ _ | refine blk_drew ?_ | refine blk_alloc ?_ _)); refine blk_put (cs := #[.int .u32 t211, .int .u32 t212, .int .u32 t213, .int .u32 t214, .int .u32 t215, .int .u32 t216, .int .u32 0, .int .u32 0]) ?_ 6 _ rfl; (with_reducible repeat (first | refine blk_drewN ?_ _ | refine blk_drew ?_ | refine blk_alloc ?_ _)); refine blk_put (cs := #[.int .u32 t211, .int .u32 t212, .int .u32 t213, .int .u32 t214, .int .u32 t215, .int .u32 0, .int .u32 0, .int .u32 0]) ?_ 5 _ rfl; (with_reducible repeat (first | refine blk_drewN ?_ _ | refine blk_drew ?_ | refine blk_alloc ?_ _)); refine blk_put (cs := #[.int .u32 t211, .int .u32 t212, .int .u32 t213, .int .u32 t214, .int .u32 0, .int .u32 0, .int .u32 0, .int .u32 0]) ?_ 4 _ rfl; (with_reducible repeat (first | refine blk_drewN ?_ _ | refine blk_drew ?_ | refine blk_alloc ?_ _)); refine blk_put (cs := #[.int .u32 t211, .int .u32 t212, .int .u32 t213, .int .u32 0, .int .u32 0, .int .u32 0, .int .u32 0, .int .u32 0]) ?_ 3 _ rfl; (with_reducible repeat (first | refine blk_drewN ?_ _ | refine blk_drew ?_ | refine blk_alloc ?_ _)); refine blk_put (cs := #[.int .u32 t211, .int .u32 t212, .int .u32 0, .int .u32 0, .int .u32 0, .int .u32 0, .int .u32 0, .int .u32 0]) ?_ 2 _ rfl; (with_reducible repeat (first | refine blk_drewN ?_ _ | refine blk_drew ?_ | refine blk_alloc ?_ _)); refine blk_put (cs := #[.int .u32 t211, .int .u32 0, .int .u32 0, .int .u32 0, .int .u32 0, .int .u32 0, .int .u32 0, .int .u32 0]) ?_ 1 _ rfl; (with_reducible repeat (first | refine blk_drewN ?_ _ | refine blk_drew ?_ | refine blk_alloc ?_ _)); refine blk_put (cs := #[.int .u32 0, .int .u32 0, .int .u32 0, .int .u32 0, .int .u32 0, .int .u32 0, .int .u32 0, .int .u32 0]) ?_ 0 _ rfl; (with_reducible repeat (first | refine blk_drewN ?_ _ | refine blk_drew ?_ | refine blk_alloc ?_ _)); exact BK219.out⟩, ⟨by repeat (first | (with_reducible first | exact HB.out | apply below_alloc | apply pw_below_drewN | apply below_drew1 | refine below_set ?_ GE197.out | refine below_set ?_ GE209.out | refine below_set ?_ GE219.out) | exact HB.out)⟩⟩
   case rest =>
    clear HC15
    try clear c1
    try clear c2
    try clear p2
    try clear c3
    try clear c3b0
    try clear c4
    try clear c5
    try clear c6
    try clear c6b0
    try clear c6b1
    try clear c8
    try clear c10
    try clear c11
    try clear c12
    try clear c13
    try clear c13b0
    try clear c13b1
    try clear c22
    try clear c27
    try clear c28
    try clear c31
    try clear c33
    try clear c34
    try clear hcz10_0
    try clear hcz10_1
    try clear hcz10_2
    try clear hcz10_3
    try clear hcz10_4
    try clear hcz10_5
    try clear hcz10_6
    try clear hcz17_0
    try clear hcz17_1
    try clear hcz17_2
    try clear hcz17_3
    try clear hcz17_4
    try clear hcz17_5
    try clear hcz17_6
    try clear hcz19_0
    try clear hcz19_1
    try clear hcz19_2
    try clear hcz19_3
    try clear hcz19_4
    try clear hcz19_5
    try clear hcz19_6
    try clear hcz23_0
    try clear hcz23_1
    try clear hcz23_2
    try clear hcz23_3
    try clear hcz23_4
    try clear hcz23_5
    try clear hcz23_6
    try clear hcz23_7
    try clear hcz24_0
    try clear hcz24_1
    try clear hcz24_2
    try clear hcz24_3
    try clear hcz24_4
    try clear hcz24_5
    try clear hcz24_6
    try clear hcz29_0
    try clear hcz29_1
    try clear hcz29_2
    try clear hcz29_3
    try clear hcz29_4
    try clear hcz29_5
    try clear hcz29_6
    try clear hcz29_7
    try clear hcz30_0
    try clear hcz30_1
    try clear hcz30_2
    try clear hcz30_3
    try clear hcz30_4
    try clear hcz30_5
    try clear hcz30_6
    try clear hcz35_0
    try clear hcz35_1
    try clear hcz35_2
    try clear hcz35_3
    try clear hcz35_4
    try clear hcz35_5
    try clear hcz35_6
    try clear hcz35_7
    try clear hcz37_0
    try clear hcz37_1
    try clear hcz37_2
    try clear hcz37_3
    try clear hcz37_4
    try clear hcz37_5
    try clear hcz37_6
    try clear hcz37_7
    try clear hcz8_0
    try clear hcz8_1
    try clear hcz8_2
    try clear hcz8_3
    try clear hcz8_4
    try clear hcz8_5
    try clear hcz8_6
    try clear hfz10_0
    try clear hfz10_1
    try clear hfz10_2
    try clear hfz10_3
    try clear hfz10_4
    try clear hfz10_5
    try clear hfz10_6
    try clear hfz17_0
    try clear hfz17_1
    try clear hfz17_2
    try clear hfz17_3
    try clear hfz17_4
    try clear hfz17_5
    try clear hfz17_6
    try clear hfz19_0
    try clear hfz19_1
    try clear hfz19_2
    try clear hfz19_3
    try clear hfz19_4
    try clear hfz19_5
    try clear hfz19_6
    try clear hfz23_0
    try clear hfz23_1
    try clear hfz23_2
    try clear hfz23_3
    try clear hfz23_4
    try clear hfz23_5
    try clear hfz23_6
    try clear hfz23_7
    try clear hfz24_0
    try clear hfz24_1
    try clear hfz24_2
    try clear hfz24_3
    try clear hfz24_4
    try clear hfz24_5
    try clear hfz24_6
    try clear hfz29_0
    try clear hfz29_1
    try clear hfz29_2
    try clear hfz29_3
    try clear hfz29_4
    try clear hfz29_5
    try clear hfz29_6
    try clear hfz29_7
    try clear hfz30_0
    try clear hfz30_1
    try clear hfz30_2
    try clear hfz30_3
    try clear hfz30_4
    try clear hfz30_5
    try clear hfz30_6
    try clear hfz35_0
    try clear hfz35_1
    try clear hfz35_2
    try clear hfz35_3
    try clear hfz35_4
    try clear hfz35_5
    try clear hfz35_6
    try clear hfz35_7
    try clear hfz37_0
    try clear hfz37_1
    try clear hfz37_2
    try clear hfz37_3
    try clear hfz37_4
    try clear hfz37_5
    try clear hfz37_6
    try clear hfz37_7
    try clear hfz8_0
    try clear hfz8_1
    try clear hfz8_2
    try clear hfz8_3
    try clear hfz8_4
    try clear hfz8_5
    try clear hfz8_6
    obtain ⟨kq, x220000_14, x220001_14, x220002_14, x220003_14, x220004_14, x220005_14, x220006_14, x220007_14, HA, HJ14, BK197, BK209, BK219, HB⟩ := hcut
    cases kq with
    | zero => exact absurd HA.out (by simp [law4A.j0])
    | succ kj14 =>
     have H := HA.out
     clear HA
     simp only [law4A.j0] at H
     by_cases c38 : t199 = 0
     ·
      rw [if_pos c38] at H
      have c38b0 : (t199 == 0) = true := beq_iff_eq.mpr c38
      have c38b1 : (t199 != 0) = false := bne_eq_false_iff_eq.mpr c38
      clear c38
      replace H := Option.bind_eq_some_iff.mp H
      obtain ⟨⟨t282, t283, t284, t285, t286, t287, t288, t289⟩, A390, H⟩ := H
      (try dsimp only at H)
      have A39 := Aside0.mk A390
      clear A390
      replace H := Option.bind_eq_some_iff.mp H
      obtain ⟨⟨t290, t291, t292, t293, t294, t295, t296, t297⟩, A400, H⟩ := H
      (try dsimp only at H)
      have A40 := Aside0.mk A400
      clear A400
      replace H := Option.bind_eq_some_iff.mp H
      obtain ⟨⟨t299, t300, t301, t302, t303, t304, t305, t306⟩, A410, H⟩ := H
      (try dsimp only at H)
      have A41 := Aside0.mk A410
      clear A410
      replace H := Option.bind_eq_some_iff.mp H
      obtain ⟨⟨t307, t308, t309, t310, t311, t312, t313, t314⟩, A420, H⟩ := H
      (try dsimp only at H)
      have A42 := Aside0.mk A420
      clear A420
      replace H := Option.bind_eq_some_iff.mp H
      obtain ⟨⟨t316, t317, t318, t319, t320, t321, t322, t323, t324⟩, A430, H⟩ := H
      (try dsimp only at H)
      have A43 := Aside0.mk A430
      clear A430
      replace H := Option.bind_eq_some_iff.mp H
      obtain ⟨⟨t326, t327, t328, t329, t330, t331, t332, t333⟩, A440, H⟩ := H
      (try dsimp only at H)
      have A44 := Aside0.mk A440
      clear A440
      replace H := Option.bind_eq_some_iff.mp H
      obtain ⟨⟨t334, t335, t336, t337, t338, t339, t340, t341⟩, A450, H⟩ := H
      (try dsimp only at H)
      have A45 := Aside0.mk A450
      clear A450
      replace H := Option.bind_eq_some_iff.mp H
      obtain ⟨⟨t342, t343, t344, t345, t346, t347, t348, t349, t350⟩, A460, H⟩ := H
      (try dsimp only at H)
      have A46 := Aside0.mk A460
      clear A460
      replace H := Option.bind_eq_some_iff.mp H
      obtain ⟨t352, A470, H⟩ := H
      (try dsimp only at H)
      have A47 := Aside0.mk A470
      clear A470
      by_cases c48 : t352 = true
      ·
       subst c48
       have H1 : (if t324 = true then (none) else (some t350)) = some r := by rw [if_pos rfl] at H; exact H
       clear H
       have H := H1
       clear H1
       by_cases c49 : t324 = true
       ·
        subst c49
        have H1 : (none) = some r := by rw [if_pos rfl] at H; exact H
        clear H
        have H := H1
        clear H1
        exact absurd H (by simp)
       ·
        replace c49 := Bool.eq_false_iff.mpr c49
        subst c49
        have H1 : (some t350) = some r := by rw [if_neg (show ¬ (false = true) by decide)] at H; exact H
        clear H
        have H := H1
        clear H1
        obtain rfl := Option.some.inj H
        try go_wp2
        have n0_ := Aside0.mk (blk_drew BK197.out)
        have n1_ := Aside0.mk (blk_drew BK209.out)
        have n2_ := Aside0.mk (blk_drew BK219.out)
        have n3_ := Aside0.mk (below_drew1 HB.out)
        clear BK197
        clear BK209
        clear BK219
        clear HB
        have BK197 := n0_
        have BK209 := n1_
        have BK219 := n2_
        have HB := n3_
        clear n0_ n1_ n2_ n3_
        refine start_ (n := 6) (S := fun w' => w'.cell? ⟨gb209, 0, none⟩ = some (.int .u32 t201) ∧ w'.cell? ⟨gb209, 1, none⟩ = some (.int .u32 t202) ∧ w'.cell? ⟨gb209, 2, none⟩ = some (.int .u32 t203) ∧ w'.cell? ⟨gb209, 3, none⟩ = some (.int .u32 t204) ∧ w'.cell? ⟨gb209, 4, none⟩ = some (.int .u32 t205) ∧ w'.cell? ⟨gb209, 5, none⟩ = some (.int .u32 t206) ∧ w'.cell? ⟨gb209, 6, none⟩ = some (.int .u32 t207) ∧ w'.cell? ⟨gb209, 7, none⟩ = some (.int .u32 t208)) (ds := []) #[false, false, false, false, false, false] (by kernel_rfl) rfl rfl ⟨(blk_cell BK209.out 0).trans rfl, (blk_cell BK209.out 1).trans rfl, (blk_cell BK209.out 2).trans rfl, (blk_cell BK209.out 3).trans rfl, (blk_cell BK209.out 4).trans rfl, (blk_cell BK209.out 5).trans rfl, (blk_cell BK209.out 6).trans rfl, (blk_cell BK209.out 7).trans rfl⟩ (fun hHeld => ?_)
        generalize wc.drew = w50 at BK197 BK209 BK219 HB hHeld ⊢
        refine pure_ (i := 0) (N := some 103) (v := ?_) (a' := ?_) #[true, false, false, false, false, false] rfl rfl (by kernel_rfl) (fun _ _ _ h => h) (Or.inl ⟨by rfl, ?_⟩) ?_ ?_
        rotate_left
        ·
         intro w'
         (try simp only [add_plain] at s0 s1 s2 s3 s4 s5 s6 s7)
         go_simp
         with_reducible rfl
        rotate_left
        ·
         simp only [Act.put, List.setIfInBounds_toArray, List.set_cons_zero, List.set_cons_succ, i64_w, i32_w]
         rfl
        refine take_ (i := 2) (N := some 105) (v := ?_) (a' := ?_) #[true, false, true, false, false, false] rfl rfl (by kernel_rfl) (fun _ _ _ h => h) (Or.inl ⟨by rfl, ?_⟩) hHeld ?_ ?_
        rotate_left
        ·
         rintro w' ⟨s0, s1, s2, s3, s4, s5, s6, s7⟩
         (try simp only [add_plain] at s0 s1 s2 s3 s4 s5 s6 s7)
         go_simp
         with_reducible rfl
        rotate_left
        ·
         simp only [Act.put, List.setIfInBounds_toArray, List.set_cons_zero, List.set_cons_succ, i64_w, i32_w]
         rfl
        refine join_ (σ := Nat) 1 #[true, true, true, true, true, false] (fun s_ => [(104, .agg #[.int .u32 t282, .int .u32 t283, .int .u32 t284, .int .u32 t285, .int .u32 t286, .int .u32 t287, .int .u32 t288, .int .u32 t289]), (106, .agg #[.int .u32 t290, .int .u32 t291, .int .u32 t292, .int .u32 t293, .int .u32 t294, .int .u32 t295, .int .u32 t296, .int .u32 t297]), (12, .pointer (some ⟨s_, 0, none⟩))]) (fun s_ w' => (w'.cell? ⟨gb209, 0, none⟩ = some (.int .u32 t201) ∧ w'.cell? ⟨gb209, 1, none⟩ = some (.int .u32 t202) ∧ w'.cell? ⟨gb209, 2, none⟩ = some (.int .u32 t203) ∧ w'.cell? ⟨gb209, 3, none⟩ = some (.int .u32 t204) ∧ w'.cell? ⟨gb209, 4, none⟩ = some (.int .u32 t205) ∧ w'.cell? ⟨gb209, 5, none⟩ = some (.int .u32 t206) ∧ w'.cell? ⟨gb209, 6, none⟩ = some (.int .u32 t207) ∧ w'.cell? ⟨gb209, 7, none⟩ = some (.int .u32 t208)) ∧ (w'.heap[gb197]? = some (.cells #[.slice A0_0 l0_0.length c0_0, .int .i64 a0_1, .int .u64 a0_2, .int .u64 a0_3, .int .u64 a0_4, .int .u64 a0_5, .bool a0_6] 36 (0, 0))) ∧ (w'.heap[gb209]? = some (.cells #[.int .u32 t201, .int .u32 t202, .int .u32 t203, .int .u32 t204, .int .u32 t205, .int .u32 t206, .int .u32 t207, .int .u32 t208] 41 (0, 0))) ∧ (w'.heap[gb219]? = some (.cells #[.int .u32 x220000_14, .int .u32 x220001_14, .int .u32 x220002_14, .int .u32 x220003_14, .int .u32 x220004_14, .int .u32 x220005_14, .int .u32 x220006_14, .int .u32 x220007_14] 41 (0, 0))) ∧ (w'.heap[s_]? = some (.cells #[.int .u32 0, .int .u32 0, .int .u32 0, .int .u32 0, .int .u32 0, .int .u32 0, .int .u32 0, .int .u32 0] 41 (0, 0))) ∧ (w.heap.size ≤ s_) ∧ (w.heap.size ≤ s_) ∧ (gb197 ≠ s_) ∧ (s_ ≠ gb197) ∧ (gb209 ≠ s_) ∧ (s_ ≠ gb209) ∧ (gb219 ≠ s_) ∧ (s_ ≠ gb219) ∧ (Below w.heap.size w w')) ?_ ?_
        rotate_left
        ·
         intro hCont
         refine two_ (i := 1) (j := 4) (Ni := some 104) (Nj := some 12) #[true, true, true, false, false, false] #[true, false, true, false, true, false] rfl rfl rfl rfl (by kernel_rfl) (by decide) (by decide) (fun K hK => ?_) (fun K hK => ?_)
         ·
          skip
          refine goes_ Try.func11 (by kernel_rfl) rfl #[.int .i64 t198] (by rfl) rfl rfl (by (try simp only [List.map_toArray, List.map_cons, List.map_nil]); first | done | rfl | (simp only [List.length_drop, List.length_take]; rfl)) ?_
          with_reducible refine (offertoryref09_Int.calls t198 t282 t283 t284 t285 t286 t287 t288 t289 _ A39.out).mono ?_
          rintro e w51 ⟨rfl, hb⟩
          refine ⟨_, rfl, ?_⟩
          have n0_ := law4A.keepB BK197 hb
          have n1_ := law4A.keepB BK209 hb
          have n2_ := law4A.keepB BK219 hb
          have n3_ := Aside0.mk (below_step (by repeat (first | (with_reducible first | exact HB.out | apply below_alloc | apply pw_below_drewN | apply below_drew1 | refine below_set ?_ GE197.out | refine below_set ?_ GE209.out | refine below_set ?_ GE219.out) | exact HB.out)) hb)
          clear BK197
          clear BK209
          clear BK219
          clear HB
          have BK197 := n0_
          have BK209 := n1_
          have BK219 := n2_
          have HB := n3_
          clear n0_ n1_ n2_ n3_
          (try clear hb)
          (try clear hb2)
          (try clear hk)
          (try clear hi)
          refine hK.out _ _ ⟨(blk_cell BK209.out 0).trans rfl, (blk_cell BK209.out 1).trans rfl, (blk_cell BK209.out 2).trans rfl, (blk_cell BK209.out 3).trans rfl, (blk_cell BK209.out 4).trans rfl, (blk_cell BK209.out 5).trans rfl, (blk_cell BK209.out 6).trans rfl, (blk_cell BK209.out 7).trans rfl⟩ (fun hHeld => ?_)
          clear hK K
          refine norm_ (a' := ?_) ?_ ?_
          rotate_left
          ·
           show Act.put _ (some 104) _ = _
           simp only [Act.put, List.setIfInBounds_toArray, List.set_cons_zero, List.set_cons_succ, i64_w, i32_w]
           rfl
          refine two_ (i := 3) (j := 4) (Ni := some 106) (Nj := some 12) #[true, true, true, true, false, false] #[true, true, true, false, true, false] rfl rfl rfl rfl (by kernel_rfl) (by decide) (by decide) (fun K hK => ?_) (fun K hK => ?_)
          ·
           skip
           refine goes_ Try.func17 (by kernel_rfl) rfl #[.agg #[.int .u32 t282, .int .u32 t283, .int .u32 t284, .int .u32 t285, .int .u32 t286, .int .u32 t287, .int .u32 t288, .int .u32 t289], .agg #[.int .u32 t201, .int .u32 t202, .int .u32 t203, .int .u32 t204, .int .u32 t205, .int .u32 t206, .int .u32 t207, .int .u32 t208]] (by rfl) rfl rfl (by (try simp only [List.map_toArray, List.map_cons, List.map_nil]); first | done | rfl | (simp only [List.length_drop, List.length_take]; rfl)) ?_
           with_reducible refine (offertoryref09_Mul.calls t282 t283 t284 t285 t286 t287 t288 t289 t201 t202 t203 t204 t205 t206 t207 t208 t290 t291 t292 t293 t294 t295 t296 t297 _ A40.out).mono ?_
           rintro e w52 ⟨rfl, hb⟩
           refine ⟨_, rfl, ?_⟩
           have n0_ := law4A.keepB BK197 hb
           have n1_ := law4A.keepB BK209 hb
           have n2_ := law4A.keepB BK219 hb
           have n3_ := Aside0.mk (below_step (by repeat (first | (with_reducible first | exact HB.out | apply below_alloc | apply pw_below_drewN | apply below_drew1 | refine below_set ?_ GE197.out | refine below_set ?_ GE209.out | refine below_set ?_ GE219.out) | exact HB.out)) hb)
           clear BK197
           clear BK209
           clear BK219
           clear HB
           have BK197 := n0_
           have BK209 := n1_
           have BK219 := n2_
           have HB := n3_
           clear n0_ n1_ n2_ n3_
           (try clear hb)
           (try clear hb2)
           (try clear hk)
           (try clear hi)
           refine hK.out _ _ ⟨(blk_cell BK209.out 0).trans rfl, (blk_cell BK209.out 1).trans rfl, (blk_cell BK209.out 2).trans rfl, (blk_cell BK209.out 3).trans rfl, (blk_cell BK209.out 4).trans rfl, (blk_cell BK209.out 5).trans rfl, (blk_cell BK209.out 6).trans rfl, (blk_cell BK209.out 7).trans rfl⟩ (fun hHeld => ?_)
           clear hK K
           refine norm_ (a' := ?_) ?_ ?_
           rotate_left
           ·
            show Act.put _ (some 106) _ = _
            simp only [Act.put, List.setIfInBounds_toArray, List.set_cons_zero, List.set_cons_succ, i64_w, i32_w]
            rfl
           refine one_ (i := 4) (N := some 12) #[true, true, true, true, true, false] rfl rfl (by kernel_rfl) (by decide) (fun K hK => ?_)
           refine box_step ?hg (N := 12) ?hd (cs := #[.int .u32 0, .int .u32 0, .int .u32 0, .int .u32 0, .int .u32 0, .int .u32 0, .int .u32 0, .int .u32 0]) (t := 41) ?hr ?_; (case hd => rfl); (case hg => rfl); (case hr => first | (go_simp; done) | (go_simp; rfl))
           intro gb298 hg w53 hbox hb
           have n0_ := law4A.keepB BK197 hb
           have n1_ := law4A.keepB BK209 hb
           have n2_ := law4A.keepB BK219 hb
           have n3_ := Aside0.mk (below_step (by repeat (first | (with_reducible first | exact HB.out | apply below_alloc | apply pw_below_drewN | apply below_drew1 | refine below_set ?_ GE197.out | refine below_set ?_ GE209.out | refine below_set ?_ GE219.out) | exact HB.out)) hb)
           have n4_ := Aside0.mk (hbox)
           have n5_ := Aside0.mk ((by rw [hg]; exact (below_size (by repeat (first | (with_reducible first | exact HB.out | apply below_alloc | apply pw_below_drewN | apply below_drew1 | refine below_set ?_ GE197.out | refine below_set ?_ GE209.out | refine below_set ?_ GE219.out) | exact HB.out))) : w.heap.size ≤ gb298))
           have n6_ := Aside0.mk ((by rw [hg]; exact (below_size (by repeat (first | (with_reducible first | exact HB.out | apply below_alloc | apply pw_below_drewN | apply below_drew1 | refine below_set ?_ GE197.out | refine below_set ?_ GE209.out | refine below_set ?_ GE219.out) | exact HB.out))) : w.heap.size ≤ gb298))
           have n7_ := law4A.neL BK197 hg
           have n8_ := law4A.neG BK197 hg
           have n9_ := law4A.neL BK209 hg
           have n10_ := law4A.neG BK209 hg
           have n11_ := law4A.neL BK219 hg
           have n12_ := law4A.neG BK219 hg
           clear BK197
           clear BK209
           clear BK219
           clear HB
           have BK197 := n0_
           have BK209 := n1_
           have BK219 := n2_
           have HB := n3_
           have BK298 := n4_
           have GW298 := n5_
           have GE298 := n6_
           have NB197_298 := n7_
           have NB298_197 := n8_
           have NB209_298 := n9_
           have NB298_209 := n10_
           have NB219_298 := n11_
           have NB298_219 := n12_
           clear n0_ n1_ n2_ n3_ n4_ n5_ n6_ n7_ n8_ n9_ n10_ n11_ n12_
           clear hb hbox hg
           refine hK.out _ _ ⟨(blk_cell BK209.out 0).trans rfl, (blk_cell BK209.out 1).trans rfl, (blk_cell BK209.out 2).trans rfl, (blk_cell BK209.out 3).trans rfl, (blk_cell BK209.out 4).trans rfl, (blk_cell BK209.out 5).trans rfl, (blk_cell BK209.out 6).trans rfl, (blk_cell BK209.out 7).trans rfl⟩ (fun hHeld => ?_)
           clear hK K
           refine norm_ (a' := ?_) ?_ ?_
           rotate_left
           ·
            show Act.put _ (some 12) _ = _
            simp only [Act.put, List.setIfInBounds_toArray, List.set_cons_zero, List.set_cons_succ, i64_w, i32_w]
            rfl
           exact norm_ (by simp only [putAll, Act.put, List.setIfInBounds_toArray, List.set_cons_zero, List.set_cons_succ]) (hCont (gb298) _ ⟨hHeld, (by (with_reducible repeat (first | refine blk_drewN ?_ _ | refine blk_drew ?_ | refine blk_alloc ?_ _)); exact BK197.out), (by (with_reducible repeat (first | refine blk_drewN ?_ _ | refine blk_drew ?_ | refine blk_alloc ?_ _)); exact BK209.out), (by (with_reducible repeat (first | refine blk_drewN ?_ _ | refine blk_drew ?_ | refine blk_alloc ?_ _)); exact BK219.out), (by (with_reducible repeat (first | refine blk_drewN ?_ _ | refine blk_drew ?_ | refine blk_alloc ?_ _)); exact BK298.out), GW298.out, GE298.out, NB197_298.out, NB298_197.out, NB209_298.out, NB298_209.out, NB219_298.out, NB298_219.out, (by repeat (first | (with_reducible first | exact HB.out | apply below_alloc | apply pw_below_drewN | apply below_drew1 | refine below_set ?_ GE197.out | refine below_set ?_ GE209.out | refine below_set ?_ GE219.out | refine below_set ?_ GE298.out) | exact HB.out))⟩)
          ·
           skip
           refine box_step ?hg (N := 12) ?hd (cs := #[.int .u32 0, .int .u32 0, .int .u32 0, .int .u32 0, .int .u32 0, .int .u32 0, .int .u32 0, .int .u32 0]) (t := 41) ?hr ?_; (case hd => rfl); (case hg => rfl); (case hr => first | (go_simp; done) | (go_simp; rfl))
           intro gb298 hg w52 hbox hb
           have n0_ := law4A.keepB BK197 hb
           have n1_ := law4A.keepB BK209 hb
           have n2_ := law4A.keepB BK219 hb
           have n3_ := Aside0.mk (below_step (by repeat (first | (with_reducible first | exact HB.out | apply below_alloc | apply pw_below_drewN | apply below_drew1 | refine below_set ?_ GE197.out | refine below_set ?_ GE209.out | refine below_set ?_ GE219.out) | exact HB.out)) hb)
           have n4_ := Aside0.mk (hbox)
           have n5_ := Aside0.mk ((by rw [hg]; exact (below_size (by repeat (first | (with_reducible first | exact HB.out | apply below_alloc | apply pw_below_drewN | apply below_drew1 | refine below_set ?_ GE197.out | refine below_set ?_ GE209.out | refine below_set ?_ GE219.out) | exact HB.out))) : w.heap.size ≤ gb298))
           have n6_ := Aside0.mk ((by rw [hg]; exact (below_size (by repeat (first | (with_reducible first | exact HB.out | apply below_alloc | apply pw_below_drewN | apply below_drew1 | refine below_set ?_ GE197.out | refine below_set ?_ GE209.out | refine below_set ?_ GE219.out) | exact HB.out))) : w.heap.size ≤ gb298))
           have n7_ := law4A.neL BK197 hg
           have n8_ := law4A.neG BK197 hg
           have n9_ := law4A.neL BK209 hg
           have n10_ := law4A.neG BK209 hg
           have n11_ := law4A.neL BK219 hg
           have n12_ := law4A.neG BK219 hg
           clear BK197
           clear BK209
           clear BK219
           clear HB
           have BK197 := n0_
           have BK209 := n1_
           have BK219 := n2_
           have HB := n3_
           have BK298 := n4_
           have GW298 := n5_
           have GE298 := n6_
           have NB197_298 := n7_
           have NB298_197 := n8_
           have NB209_298 := n9_
           have NB298_209 := n10_
           have NB219_298 := n11_
           have NB298_219 := n12_
           clear n0_ n1_ n2_ n3_ n4_ n5_ n6_ n7_ n8_ n9_ n10_ n11_ n12_
           clear hb hbox hg
           refine hK.out _ _ ⟨(blk_cell BK209.out 0).trans rfl, (blk_cell BK209.out 1).trans rfl, (blk_cell BK209.out 2).trans rfl, (blk_cell BK209.out 3).trans rfl, (blk_cell BK209.out 4).trans rfl, (blk_cell BK209.out 5).trans rfl, (blk_cell BK209.out 6).trans rfl, (blk_cell BK209.out 7).trans rfl⟩ (fun hHeld => ?_)
           clear hK K
           refine norm_ (a' := ?_) ?_ ?_
           rotate_left
           ·
            show Act.put _ (some 12) _ = _
            simp only [Act.put, List.setIfInBounds_toArray, List.set_cons_zero, List.set_cons_succ, i64_w, i32_w]
            rfl
           refine one_ (i := 3) (N := some 106) #[true, true, true, true, true, false] rfl rfl (by kernel_rfl) (by decide) (fun K hK => ?_)
           refine goes_ Try.func17 (by kernel_rfl) rfl #[.agg #[.int .u32 t282, .int .u32 t283, .int .u32 t284, .int .u32 t285, .int .u32 t286, .int .u32 t287, .int .u32 t288, .int .u32 t289], .agg #[.int .u32 t201, .int .u32 t202, .int .u32 t203, .int .u32 t204, .int .u32 t205, .int .u32 t206, .int .u32 t207, .int .u32 t208]] (by rfl) rfl rfl (by (try simp only [List.map_toArray, List.map_cons, List.map_nil]); first | done | rfl | (simp only [List.length_drop, List.length_take]; rfl)) ?_
           with_reducible refine (offertoryref09_Mul.calls t282 t283 t284 t285 t286 t287 t288 t289 t201 t202 t203 t204 t205 t206 t207 t208 t290 t291 t292 t293 t294 t295 t296 t297 _ A40.out).mono ?_
           rintro e w53 ⟨rfl, hb⟩
           refine ⟨_, rfl, ?_⟩
           have n0_ := law4A.keepB BK197 hb
           have n1_ := law4A.keepB BK209 hb
           have n2_ := law4A.keepB BK219 hb
           have n3_ := law4A.keepB BK298 hb
           have n4_ := Aside0.mk (below_step (by repeat (first | (with_reducible first | exact HB.out | apply below_alloc | apply pw_below_drewN | apply below_drew1 | refine below_set ?_ GE197.out | refine below_set ?_ GE209.out | refine below_set ?_ GE219.out | refine below_set ?_ GE298.out) | exact HB.out)) hb)
           clear BK197
           clear BK209
           clear BK219
           clear BK298
           clear HB
           have BK197 := n0_
           have BK209 := n1_
           have BK219 := n2_
           have BK298 := n3_
           have HB := n4_
           clear n0_ n1_ n2_ n3_ n4_
           (try clear hb)
           (try clear hb2)
           (try clear hk)
           (try clear hi)
           refine hK.out _ _ ⟨(blk_cell BK209.out 0).trans rfl, (blk_cell BK209.out 1).trans rfl, (blk_cell BK209.out 2).trans rfl, (blk_cell BK209.out 3).trans rfl, (blk_cell BK209.out 4).trans rfl, (blk_cell BK209.out 5).trans rfl, (blk_cell BK209.out 6).trans rfl, (blk_cell BK209.out 7).trans rfl⟩ (fun hHeld => ?_)
           clear hK K
           refine norm_ (a' := ?_) ?_ ?_
           rotate_left
           ·
            show Act.put _ (some 106) _ = _
            simp only [Act.put, List.setIfInBounds_toArray, List.set_cons_zero, List.set_cons_succ, i64_w, i32_w]
            rfl
           exact norm_ (by simp only [putAll, Act.put, List.setIfInBounds_toArray, List.set_cons_zero, List.set_cons_succ]) (hCont (gb298) _ ⟨hHeld, (by (with_reducible repeat (first | refine blk_drewN ?_ _ | refine blk_drew ?_ | refine blk_alloc ?_ _)); exact BK197.out), (by (with_reducible repeat (first | refine blk_drewN ?_ _ | refine blk_drew ?_ | refine blk_alloc ?_ _)); exact BK209.out), (by (with_reducible repeat (first | refine blk_drewN ?_ _ | refine blk_drew ?_ | refine blk_alloc ?_ _)); exact BK219.out), (by (with_reducible repeat (first | refine blk_drewN ?_ _ | refine blk_drew ?_ | refine blk_alloc ?_ _)); exact BK298.out), GW298.out, GE298.out, NB197_298.out, NB298_197.out, NB209_298.out, NB298_209.out, NB219_298.out, NB298_219.out, (by repeat (first | (with_reducible first | exact HB.out | apply below_alloc | apply pw_below_drewN | apply below_drew1 | refine below_set ?_ GE197.out | refine below_set ?_ GE209.out | refine below_set ?_ GE219.out | refine below_set ?_ GE298.out) | exact HB.out))⟩)
         ·
          skip
          refine box_step ?hg (N := 12) ?hd (cs := #[.int .u32 0, .int .u32 0, .int .u32 0, .int .u32 0, .int .u32 0, .int .u32 0, .int .u32 0, .int .u32 0]) (t := 41) ?hr ?_; (case hd => rfl); (case hg => rfl); (case hr => first | (go_simp; done) | (go_simp; rfl))
          intro gb298 hg w51 hbox hb
          have n0_ := law4A.keepB BK197 hb
          have n1_ := law4A.keepB BK209 hb
          have n2_ := law4A.keepB BK219 hb
          have n3_ := Aside0.mk (below_step (by repeat (first | (with_reducible first | exact HB.out | apply below_alloc | apply pw_below_drewN | apply below_drew1 | refine below_set ?_ GE197.out | refine below_set ?_ GE209.out | refine below_set ?_ GE219.out) | exact HB.out)) hb)
          have n4_ := Aside0.mk (hbox)
          have n5_ := Aside0.mk ((by rw [hg]; exact (below_size (by repeat (first | (with_reducible first | exact HB.out | apply below_alloc | apply pw_below_drewN | apply below_drew1 | refine below_set ?_ GE197.out | refine below_set ?_ GE209.out | refine below_set ?_ GE219.out) | exact HB.out))) : w.heap.size ≤ gb298))
          have n6_ := Aside0.mk ((by rw [hg]; exact (below_size (by repeat (first | (with_reducible first | exact HB.out | apply below_alloc | apply pw_below_drewN | apply below_drew1 | refine below_set ?_ GE197.out | refine below_set ?_ GE209.out | refine below_set ?_ GE219.out) | exact HB.out))) : w.heap.size ≤ gb298))
          have n7_ := law4A.neL BK197 hg
          have n8_ := law4A.neG BK197 hg
          have n9_ := law4A.neL BK209 hg
          have n10_ := law4A.neG BK209 hg
          have n11_ := law4A.neL BK219 hg
          have n12_ := law4A.neG BK219 hg
          clear BK197
          clear BK209
          clear BK219
          clear HB
          have BK197 := n0_
          have BK209 := n1_
          have BK219 := n2_
          have HB := n3_
          have BK298 := n4_
          have GW298 := n5_
          have GE298 := n6_
          have NB197_298 := n7_
          have NB298_197 := n8_
          have NB209_298 := n9_
          have NB298_209 := n10_
          have NB219_298 := n11_
          have NB298_219 := n12_
          clear n0_ n1_ n2_ n3_ n4_ n5_ n6_ n7_ n8_ n9_ n10_ n11_ n12_
          clear hb hbox hg
          refine hK.out _ _ ⟨(blk_cell BK209.out 0).trans rfl, (blk_cell BK209.out 1).trans rfl, (blk_cell BK209.out 2).trans rfl, (blk_cell BK209.out 3).trans rfl, (blk_cell BK209.out 4).trans rfl, (blk_cell BK209.out 5).trans rfl, (blk_cell BK209.out 6).trans rfl, (blk_cell BK209.out 7).trans rfl⟩ (fun hHeld => ?_)
          clear hK K
          refine norm_ (a' := ?_) ?_ ?_
          rotate_left
          ·
           show Act.put _ (some 12) _ = _
           simp only [Act.put, List.setIfInBounds_toArray, List.set_cons_zero, List.set_cons_succ, i64_w, i32_w]
           rfl
          refine one_ (i := 1) (N := some 104) #[true, true, true, false, true, false] rfl rfl (by kernel_rfl) (by decide) (fun K hK => ?_)
          refine goes_ Try.func11 (by kernel_rfl) rfl #[.int .i64 t198] (by rfl) rfl rfl (by (try simp only [List.map_toArray, List.map_cons, List.map_nil]); first | done | rfl | (simp only [List.length_drop, List.length_take]; rfl)) ?_
          with_reducible refine (offertoryref09_Int.calls t198 t282 t283 t284 t285 t286 t287 t288 t289 _ A39.out).mono ?_
          rintro e w52 ⟨rfl, hb⟩
          refine ⟨_, rfl, ?_⟩
          have n0_ := law4A.keepB BK197 hb
          have n1_ := law4A.keepB BK209 hb
          have n2_ := law4A.keepB BK219 hb
          have n3_ := law4A.keepB BK298 hb
          have n4_ := Aside0.mk (below_step (by repeat (first | (with_reducible first | exact HB.out | apply below_alloc | apply pw_below_drewN | apply below_drew1 | refine below_set ?_ GE197.out | refine below_set ?_ GE209.out | refine below_set ?_ GE219.out | refine below_set ?_ GE298.out) | exact HB.out)) hb)
          clear BK197
          clear BK209
          clear BK219
          clear BK298
          clear HB
          have BK197 := n0_
          have BK209 := n1_
          have BK219 := n2_
          have BK298 := n3_
          have HB := n4_
          clear n0_ n1_ n2_ n3_ n4_
          (try clear hb)
          (try clear hb2)
          (try clear hk)
          (try clear hi)
          refine hK.out _ _ ⟨(blk_cell BK209.out 0).trans rfl, (blk_cell BK209.out 1).trans rfl, (blk_cell BK209.out 2).trans rfl, (blk_cell BK209.out 3).trans rfl, (blk_cell BK209.out 4).trans rfl, (blk_cell BK209.out 5).trans rfl, (blk_cell BK209.out 6).trans rfl, (blk_cell BK209.out 7).trans rfl⟩ (fun hHeld => ?_)
          clear hK K
          refine norm_ (a' := ?_) ?_ ?_
          rotate_left
          ·
           show Act.put _ (some 104) _ = _
           simp only [Act.put, List.setIfInBounds_toArray, List.set_cons_zero, List.set_cons_succ, i64_w, i32_w]
           rfl
          refine one_ (i := 3) (N := some 106) #[true, true, true, true, true, false] rfl rfl (by kernel_rfl) (by decide) (fun K hK => ?_)
          refine goes_ Try.func17 (by kernel_rfl) rfl #[.agg #[.int .u32 t282, .int .u32 t283, .int .u32 t284, .int .u32 t285, .int .u32 t286, .int .u32 t287, .int .u32 t288, .int .u32 t289], .agg #[.int .u32 t201, .int .u32 t202, .int .u32 t203, .int .u32 t204, .int .u32 t205, .int .u32 t206, .int .u32 t207, .int .u32 t208]] (by rfl) rfl rfl (by (try simp only [List.map_toArray, List.map_cons, List.map_nil]); first | done | rfl | (simp only [List.length_drop, List.length_take]; rfl)) ?_
          with_reducible refine (offertoryref09_Mul.calls t282 t283 t284 t285 t286 t287 t288 t289 t201 t202 t203 t204 t205 t206 t207 t208 t290 t291 t292 t293 t294 t295 t296 t297 _ A40.out).mono ?_
          rintro e w53 ⟨rfl, hb⟩
          refine ⟨_, rfl, ?_⟩
          have n0_ := law4A.keepB BK197 hb
          have n1_ := law4A.keepB BK209 hb
          have n2_ := law4A.keepB BK219 hb
          have n3_ := law4A.keepB BK298 hb
          have n4_ := Aside0.mk (below_step (by repeat (first | (with_reducible first | exact HB.out | apply below_alloc | apply pw_below_drewN | apply below_drew1 | refine below_set ?_ GE197.out | refine below_set ?_ GE209.out | refine below_set ?_ GE219.out | refine below_set ?_ GE298.out) | exact HB.out)) hb)
          clear BK197
          clear BK209
          clear BK219
          clear BK298
          clear HB
          have BK197 := n0_
          have BK209 := n1_
          have BK219 := n2_
          have BK298 := n3_
          have HB := n4_
          clear n0_ n1_ n2_ n3_ n4_
          (try clear hb)
          (try clear hb2)
          (try clear hk)
          (try clear hi)
          refine hK.out _ _ ⟨(blk_cell BK209.out 0).trans rfl, (blk_cell BK209.out 1).trans rfl, (blk_cell BK209.out 2).trans rfl, (blk_cell BK209.out 3).trans rfl, (blk_cell BK209.out 4).trans rfl, (blk_cell BK209.out 5).trans rfl, (blk_cell BK209.out 6).trans rfl, (blk_cell BK209.out 7).trans rfl⟩ (fun hHeld => ?_)
          clear hK K
          refine norm_ (a' := ?_) ?_ ?_
          rotate_left
          ·
           show Act.put _ (some 106) _ = _
           simp only [Act.put, List.setIfInBounds_toArray, List.set_cons_zero, List.set_cons_succ, i64_w, i32_w]
           rfl
          exact norm_ (by simp only [putAll, Act.put, List.setIfInBounds_toArray, List.set_cons_zero, List.set_cons_succ]) (hCont (gb298) _ ⟨hHeld, (by (with_reducible repeat (first | refine blk_drewN ?_ _ | refine blk_drew ?_ | refine blk_alloc ?_ _)); exact BK197.out), (by (with_reducible repeat (first | refine blk_drewN ?_ _ | refine blk_drew ?_ | refine blk_alloc ?_ _)); exact BK209.out), (by (with_reducible repeat (first | refine blk_drewN ?_ _ | refine blk_drew ?_ | refine blk_alloc ?_ _)); exact BK219.out), (by (with_reducible repeat (first | refine blk_drewN ?_ _ | refine blk_drew ?_ | refine blk_alloc ?_ _)); exact BK298.out), GW298.out, GE298.out, NB197_298.out, NB298_197.out, NB209_298.out, NB298_209.out, NB219_298.out, NB298_219.out, (by repeat (first | (with_reducible first | exact HB.out | apply below_alloc | apply pw_below_drewN | apply below_drew1 | refine below_set ?_ GE197.out | refine below_set ?_ GE209.out | refine below_set ?_ GE219.out | refine below_set ?_ GE298.out) | exact HB.out))⟩)
        rintro gb298 w54 ⟨hS_, h0_, h1_, h2_, h3_, h4_, h5_, h6_, h7_, h8_, h9_, h10_, h11_, h12_⟩
        have n0_ : Aside0 (w54.heap[gb197]? = some (.cells #[.slice A0_0 l0_0.length c0_0, .int .i64 a0_1, .int .u64 a0_2, .int .u64 a0_3, .int .u64 a0_4, .int .u64 a0_5, .bool a0_6] 36 (0, 0))) := ⟨h0_⟩
        have n1_ : Aside0 (w54.heap[gb209]? = some (.cells #[.int .u32 t201, .int .u32 t202, .int .u32 t203, .int .u32 t204, .int .u32 t205, .int .u32 t206, .int .u32 t207, .int .u32 t208] 41 (0, 0))) := ⟨h1_⟩
        have n2_ : Aside0 (w54.heap[gb219]? = some (.cells #[.int .u32 x220000_14, .int .u32 x220001_14, .int .u32 x220002_14, .int .u32 x220003_14, .int .u32 x220004_14, .int .u32 x220005_14, .int .u32 x220006_14, .int .u32 x220007_14] 41 (0, 0))) := ⟨h2_⟩
        have n3_ : Aside0 (w54.heap[gb298]? = some (.cells #[.int .u32 0, .int .u32 0, .int .u32 0, .int .u32 0, .int .u32 0, .int .u32 0, .int .u32 0, .int .u32 0] 41 (0, 0))) := ⟨h3_⟩
        have n4_ : Aside0 (w.heap.size ≤ gb298) := ⟨h4_⟩
        have n5_ : Aside0 (w.heap.size ≤ gb298) := ⟨h5_⟩
        have n6_ : Aside0 (gb197 ≠ gb298) := ⟨h6_⟩
        have n7_ : Aside0 (gb298 ≠ gb197) := ⟨h7_⟩
        have n8_ : Aside0 (gb209 ≠ gb298) := ⟨h8_⟩
        have n9_ : Aside0 (gb298 ≠ gb209) := ⟨h9_⟩
        have n10_ : Aside0 (gb219 ≠ gb298) := ⟨h10_⟩
        have n11_ : Aside0 (gb298 ≠ gb219) := ⟨h11_⟩
        have n12_ : Aside0 (Below w.heap.size w w54) := ⟨h12_⟩
        clear BK197
        clear BK209
        clear BK219
        clear HB
        clear h0_ h1_ h2_ h3_ h4_ h5_ h6_ h7_ h8_ h9_ h10_ h11_ h12_
        have BK197 := n0_
        have BK209 := n1_
        have BK219 := n2_
        have BK298 := n3_
        have GW298 := n4_
        have GE298 := n5_
        have NB197_298 := n6_
        have NB298_197 := n7_
        have NB209_298 := n8_
        have NB298_209 := n9_
        have NB219_298 := n10_
        have NB298_219 := n11_
        have HB := n12_
        clear n0_ n1_ n2_ n3_ n4_ n5_ n6_ n7_ n8_ n9_ n10_ n11_ n12_
        have hHeld : w54.cell? ⟨gb209, 0, none⟩ = some (.int .u32 t201) ∧ w54.cell? ⟨gb209, 1, none⟩ = some (.int .u32 t202) ∧ w54.cell? ⟨gb209, 2, none⟩ = some (.int .u32 t203) ∧ w54.cell? ⟨gb209, 3, none⟩ = some (.int .u32 t204) ∧ w54.cell? ⟨gb209, 4, none⟩ = some (.int .u32 t205) ∧ w54.cell? ⟨gb209, 5, none⟩ = some (.int .u32 t206) ∧ w54.cell? ⟨gb209, 6, none⟩ = some (.int .u32 t207) ∧ w54.cell? ⟨gb209, 7, none⟩ = some (.int .u32 t208) := hS_
        refine norm_ (a' := ?_) ?_ ?_
        rotate_left
        ·
         simp only [putAll, Act.put, List.setIfInBounds_toArray, List.set_cons_zero, List.set_cons_succ]
         rfl
        refine one_ (i := 5) (N := none) #[true, true, true, true, true, true] rfl rfl (by kernel_rfl) (by decide) (fun K hK => ?_)
        have hs55 : w54.cell? ⟨gb298, 0, none⟩ = some (.int .u32 0) := (blk_cell BK298.out 0).trans rfl
        have hfs55 := blk_frozen BK298.out 0
        have hns55_0 := NB197_298.out
        have hns55_1 := NB209_298.out
        have hns55_2 := NB219_298.out
        have hms55_0 := NB298_197.out
        have hms55_1 := NB298_209.out
        have hms55_2 := NB298_219.out
        have hs56 : w54.cell? ⟨gb298, 1, none⟩ = some (.int .u32 0) := (blk_cell BK298.out 1).trans rfl
        have hfs56 := blk_frozen BK298.out 1
        have hns56_0 := NB197_298.out
        have hns56_1 := NB209_298.out
        have hns56_2 := NB219_298.out
        have hms56_0 := NB298_197.out
        have hms56_1 := NB298_209.out
        have hms56_2 := NB298_219.out
        have hs57 : w54.cell? ⟨gb298, 2, none⟩ = some (.int .u32 0) := (blk_cell BK298.out 2).trans rfl
        have hfs57 := blk_frozen BK298.out 2
        have hns57_0 := NB197_298.out
        have hns57_1 := NB209_298.out
        have hns57_2 := NB219_298.out
        have hms57_0 := NB298_197.out
        have hms57_1 := NB298_209.out
        have hms57_2 := NB298_219.out
        have hs58 : w54.cell? ⟨gb298, 3, none⟩ = some (.int .u32 0) := (blk_cell BK298.out 3).trans rfl
        have hfs58 := blk_frozen BK298.out 3
        have hns58_0 := NB197_298.out
        have hns58_1 := NB209_298.out
        have hns58_2 := NB219_298.out
        have hms58_0 := NB298_197.out
        have hms58_1 := NB298_209.out
        have hms58_2 := NB298_219.out
        have hs59 : w54.cell? ⟨gb298, 4, none⟩ = some (.int .u32 0) := (blk_cell BK298.out 4).trans rfl
        have hfs59 := blk_frozen BK298.out 4
        have hns59_0 := NB197_298.out
        have hns59_1 := NB209_298.out
        have hns59_2 := NB219_298.out
        have hms59_0 := NB298_197.out
        have hms59_1 := NB298_209.out
        have hms59_2 := NB298_219.out
        have hs60 : w54.cell? ⟨gb298, 5, none⟩ = some (.int .u32 0) := (blk_cell BK298.out 5).trans rfl
        have hfs60 := blk_frozen BK298.out 5
        have hns60_0 := NB197_298.out
        have hns60_1 := NB209_298.out
        have hns60_2 := NB219_298.out
        have hms60_0 := NB298_197.out
        have hms60_1 := NB298_209.out
        have hms60_2 := NB298_219.out
        have hs61 : w54.cell? ⟨gb298, 6, none⟩ = some (.int .u32 0) := (blk_cell BK298.out 6).trans rfl
        have hfs61 := blk_frozen BK298.out 6
        have hns61_0 := NB197_298.out
        have hns61_1 := NB209_298.out
        have hns61_2 := NB219_298.out
        have hms61_0 := NB298_197.out
        have hms61_1 := NB298_209.out
        have hms61_2 := NB298_219.out
        have hs62 : w54.cell? ⟨gb298, 7, none⟩ = some (.int .u32 0) := (blk_cell BK298.out 7).trans rfl
        have hfs62 := blk_frozen BK298.out 7
        have hns62_0 := NB197_298.out
        have hns62_1 := NB209_298.out
        have hns62_2 := NB219_298.out
        have hms62_0 := NB298_197.out
        have hms62_1 := NB298_209.out
        have hms62_2 := NB298_219.out
        refine skip_ (w1 := ?_) (by rfl) rfl ?_ ?_
        rotate_left
        ·
         go_simp
         rfl
        refine hK.out _ _ ⟨((cell_far (p := ⟨gb298, _, none⟩) NB209_298.out _).trans (((cell_far (p := ⟨gb298, _, none⟩) NB209_298.out _).trans (((cell_far (p := ⟨gb298, _, none⟩) NB209_298.out _).trans (((cell_far (p := ⟨gb298, _, none⟩) NB209_298.out _).trans (((cell_far (p := ⟨gb298, _, none⟩) NB209_298.out _).trans (((cell_far (p := ⟨gb298, _, none⟩) NB209_298.out _).trans (((cell_far (p := ⟨gb298, _, none⟩) NB209_298.out _).trans (((cell_far (p := ⟨gb298, _, none⟩) NB209_298.out _).trans (hHeld.1)))))))))))))))), ((cell_far (p := ⟨gb298, _, none⟩) NB209_298.out _).trans (((cell_far (p := ⟨gb298, _, none⟩) NB209_298.out _).trans (((cell_far (p := ⟨gb298, _, none⟩) NB209_298.out _).trans (((cell_far (p := ⟨gb298, _, none⟩) NB209_298.out _).trans (((cell_far (p := ⟨gb298, _, none⟩) NB209_298.out _).trans (((cell_far (p := ⟨gb298, _, none⟩) NB209_298.out _).trans (((cell_far (p := ⟨gb298, _, none⟩) NB209_298.out _).trans (((cell_far (p := ⟨gb298, _, none⟩) NB209_298.out _).trans (hHeld.2.1)))))))))))))))), ((cell_far (p := ⟨gb298, _, none⟩) NB209_298.out _).trans (((cell_far (p := ⟨gb298, _, none⟩) NB209_298.out _).trans (((cell_far (p := ⟨gb298, _, none⟩) NB209_298.out _).trans (((cell_far (p := ⟨gb298, _, none⟩) NB209_298.out _).trans (((cell_far (p := ⟨gb298, _, none⟩) NB209_298.out _).trans (((cell_far (p := ⟨gb298, _, none⟩) NB209_298.out _).trans (((cell_far (p := ⟨gb298, _, none⟩) NB209_298.out _).trans (((cell_far (p := ⟨gb298, _, none⟩) NB209_298.out _).trans (hHeld.2.2.1)))))))))))))))), ((cell_far (p := ⟨gb298, _, none⟩) NB209_298.out _).trans (((cell_far (p := ⟨gb298, _, none⟩) NB209_298.out _).trans (((cell_far (p := ⟨gb298, _, none⟩) NB209_298.out _).trans (((cell_far (p := ⟨gb298, _, none⟩) NB209_298.out _).trans (((cell_far (p := ⟨gb298, _, none⟩) NB209_298.out _).trans (((cell_far (p := ⟨gb298, _, none⟩) NB209_298.out _).trans (((cell_far (p := ⟨gb298, _, none⟩) NB209_298.out _).trans (((cell_far (p := ⟨gb298, _, none⟩) NB209_298.out _).trans (hHeld.2.2.2.1)))))))))))))))), ((cell_far (p := ⟨gb298, _, none⟩) NB209_298.out _).trans (((cell_far (p := ⟨gb298, _, none⟩) NB209_298.out _).trans (((cell_far (p := ⟨gb298, _, none⟩) NB209_298.out _).trans (((cell_far (p := ⟨gb298, _, none⟩) NB209_298.out _).trans (((cell_far (p := ⟨gb298, _, none⟩) NB209_298.out _).trans (((cell_far (p := ⟨gb298, _, none⟩) NB209_298.out _).trans (((cell_far (p := ⟨gb298, _, none⟩) NB209_298.out _).trans (((cell_far (p := ⟨gb298, _, none⟩) NB209_298.out _).trans (hHeld.2.2.2.2.1)))))))))))))))), ((cell_far (p := ⟨gb298, _, none⟩) NB209_298.out _).trans (((cell_far (p := ⟨gb298, _, none⟩) NB209_298.out _).trans (((cell_far (p := ⟨gb298, _, none⟩) NB209_298.out _).trans (((cell_far (p := ⟨gb298, _, none⟩) NB209_298.out _).trans (((cell_far (p := ⟨gb298, _, none⟩) NB209_298.out _).trans (((cell_far (p := ⟨gb298, _, none⟩) NB209_298.out _).trans (((cell_far (p := ⟨gb298, _, none⟩) NB209_298.out _).trans (((cell_far (p := ⟨gb298, _, none⟩) NB209_298.out _).trans (hHeld.2.2.2.2.2.1)))))))))))))))), ((cell_far (p := ⟨gb298, _, none⟩) NB209_298.out _).trans (((cell_far (p := ⟨gb298, _, none⟩) NB209_298.out _).trans (((cell_far (p := ⟨gb298, _, none⟩) NB209_298.out _).trans (((cell_far (p := ⟨gb298, _, none⟩) NB209_298.out _).trans (((cell_far (p := ⟨gb298, _, none⟩) NB209_298.out _).trans (((cell_far (p := ⟨gb298, _, none⟩) NB209_298.out _).trans (((cell_far (p := ⟨gb298, _, none⟩) NB209_298.out _).trans (((cell_far (p := ⟨gb298, _, none⟩) NB209_298.out _).trans (hHeld.2.2.2.2.2.2.1)))))))))))))))), ((cell_far (p := ⟨gb298, _, none⟩) NB209_298.out _).trans (((cell_far (p := ⟨gb298, _, none⟩) NB209_298.out _).trans (((cell_far (p := ⟨gb298, _, none⟩) NB209_298.out _).trans (((cell_far (p := ⟨gb298, _, none⟩) NB209_298.out _).trans (((cell_far (p := ⟨gb298, _, none⟩) NB209_298.out _).trans (((cell_far (p := ⟨gb298, _, none⟩) NB209_298.out _).trans (((cell_far (p := ⟨gb298, _, none⟩) NB209_298.out _).trans (((cell_far (p := ⟨gb298, _, none⟩) NB209_298.out _).trans (hHeld.2.2.2.2.2.2.2))))))))))))))))⟩ (fun hHeld => ?_)
        clear hK K
        refine done_ (by kernel_rfl) ?_
        try go_wp2
        have n0_ : Aside0 (((((((((w54.setCell ⟨gb298, 0, none⟩ (.int .u32 t290)).setCell ⟨gb298, 1, none⟩ (.int .u32 t291)).setCell ⟨gb298, 2, none⟩ (.int .u32 t292)).setCell ⟨gb298, 3, none⟩ (.int .u32 t293)).setCell ⟨gb298, 4, none⟩ (.int .u32 t294)).setCell ⟨gb298, 5, none⟩ (.int .u32 t295)).setCell ⟨gb298, 6, none⟩ (.int .u32 t296)).setCell ⟨gb298, 7, none⟩ (.int .u32 t297)).heap[gb197]? = some (.cells #[.slice A0_0 l0_0.length c0_0, .int .i64 a0_1, .int .u64 a0_2, .int .u64 a0_3, .int .u64 a0_4, .int .u64 a0_5, .bool a0_6] 36 (0, 0))) := ⟨by (repeat (first | (with_reducible first | refine blk_drewN ?_ _ | refine blk_drew ?_ | refine blk_alloc ?_ _) | refine blk_far ?_ NB197_298.out _)); (with_reducible repeat (first | refine blk_drewN ?_ _ | refine blk_drew ?_ | refine blk_alloc ?_ _)); exact BK197.out⟩
        have n1_ : Aside0 (((((((((w54.setCell ⟨gb298, 0, none⟩ (.int .u32 t290)).setCell ⟨gb298, 1, none⟩ (.int .u32 t291)).setCell ⟨gb298, 2, none⟩ (.int .u32 t292)).setCell ⟨gb298, 3, none⟩ (.int .u32 t293)).setCell ⟨gb298, 4, none⟩ (.int .u32 t294)).setCell ⟨gb298, 5, none⟩ (.int .u32 t295)).setCell ⟨gb298, 6, none⟩ (.int .u32 t296)).setCell ⟨gb298, 7, none⟩ (.int .u32 t297)).heap[gb209]? = some (.cells #[.int .u32 t201, .int .u32 t202, .int .u32 t203, .int .u32 t204, .int .u32 t205, .int .u32 t206, .int .u32 t207, .int .u32 t208] 41 (0, 0))) := ⟨by (repeat (first | (with_reducible first | refine blk_drewN ?_ _ | refine blk_drew ?_ | refine blk_alloc ?_ _) | refine blk_far ?_ NB209_298.out _)); (with_reducible repeat (first | refine blk_drewN ?_ _ | refine blk_drew ?_ | refine blk_alloc ?_ _)); exact BK209.out⟩
        have n2_ : Aside0 (((((((((w54.setCell ⟨gb298, 0, none⟩ (.int .u32 t290)).setCell ⟨gb298, 1, none⟩ (.int .u32 t291)).setCell ⟨gb298, 2, none⟩ (.int .u32 t292)).setCell ⟨gb298, 3, none⟩ (.int .u32 t293)).setCell ⟨gb298, 4, none⟩ (.int .u32 t294)).setCell ⟨gb298, 5, none⟩ (.int .u32 t295)).setCell ⟨gb298, 6, none⟩ (.int .u32 t296)).setCell ⟨gb298, 7, none⟩ (.int .u32 t297)).heap[gb219]? = some (.cells #[.int .u32 x220000_14, .int .u32 x220001_14, .int .u32 x220002_14, .int .u32 x220003_14, .int .u32 x220004_14, .int .u32 x220005_14, .int .u32 x220006_14, .int .u32 x220007_14] 41 (0, 0))) := ⟨by (repeat (first | (with_reducible first | refine blk_drewN ?_ _ | refine blk_drew ?_ | refine blk_alloc ?_ _) | refine blk_far ?_ NB219_298.out _)); (with_reducible repeat (first | refine blk_drewN ?_ _ | refine blk_drew ?_ | refine blk_alloc ?_ _)); exact BK219.out⟩
        have n3_ : Aside0 (((((((((w54.setCell ⟨gb298, 0, none⟩ (.int .u32 t290)).setCell ⟨gb298, 1, none⟩ (.int .u32 t291)).setCell ⟨gb298, 2, none⟩ (.int .u32 t292)).setCell ⟨gb298, 3, none⟩ (.int .u32 t293)).setCell ⟨gb298, 4, none⟩ (.int .u32 t294)).setCell ⟨gb298, 5, none⟩ (.int .u32 t295)).setCell ⟨gb298, 6, none⟩ (.int .u32 t296)).setCell ⟨gb298, 7, none⟩ (.int .u32 t297)).heap[gb298]? = some (.cells #[.int .u32 t290, .int .u32 t291, .int .u32 t292, .int .u32 t293, .int .u32 t294, .int .u32 t295, .int .u32 t296, .int .u32 t297] 41 (0, 0))) := ⟨by (with_reducible repeat (first | refine blk_drewN ?_ _ | refine blk_drew ?_ | refine blk_alloc ?_ _)); refine blk_put (cs := #[.int .u32 t290, .int .u32 t291, .int .u32 t292, .int .u32 t293, .int .u32 t294, .int .u32 t295, .int .u32 t296, .int .u32 0]) ?_ 7 _ rfl; (with_reducible repeat (first | refine blk_drewN ?_ _ | refine blk_drew ?_ | refine blk_alloc ?_ _)); refine blk_put (cs := #[.int .u32 t290, .int .u32 t291, .int .u32 t292, .int .u32 t293, .int .u32 t294, .int .u32 t295, .int .u32 0, .int .u32 0]) ?_ 6 _ rfl; (with_reducible repeat (first | refine blk_drewN ?_ _ | refine blk_drew ?_ | refine blk_alloc ?_ _)); refine blk_put (cs := #[.int .u32 t290, .int .u32 t291, .int .u32 t292, .int .u32 t293, .int .u32 t294, .int .u32 0, .int .u32 0, .int .u32 0]) ?_ 5 _ rfl; (with_reducible repeat (first | refine blk_drewN ?_ _ | refine blk_drew ?_ | refine blk_alloc ?_ _)); refine blk_put (cs := #[.int .u32 t290, .int .u32 t291, .int .u32 t292, .int .u32 t293, .int .u32 0, .int .u32 0, .int .u32 0, .int .u32 0]) ?_ 4 _ rfl; (with_reducible repeat (first | refine blk_drewN ?_ _ | refine blk_drew ?_ | refine blk_alloc ?_ _)); refine blk_put (cs := #[.int .u32 t290, .int .u32 t291, .int .u32 t292, .int .u32 0, .int .u32 0, .int .u32 0, .int .u32 0, .int .u32 0]) ?_ 3 _ rfl; (with_reducible repeat (first | refine blk_drewN ?_ _ | refine blk_drew ?_ | refine blk_alloc ?_ _)); refine blk_put (cs := #[.int .u32 t290, .int .u32 t291, .int .u32 0, .int .u32 0, .int .u32 0, .int .u32 0, .int .u32 0, .int .u32 0]) ?_ 2 _ rfl; (with_reducible repeat (first | refine blk_drewN ?_ _ | refine blk_drew ?_ | refine blk_alloc ?_ _)); refine blk_put (cs := #[.int .u32 t290, .int .u32 0, .int .u32 0, .int .u32 0, .int .u32 0, .int .u32 0, .int .u32 0, .int .u32 0]) ?_ 1 _ rfl; (with_reducible repeat (first | refine blk_drewN ?_ _ | refine blk_drew ?_ | refine blk_alloc ?_ _)); refine blk_put (cs := #[.int .u32 0, .int .u32 0, .int .u32 0, .int .u32 0, .int .u32 0, .int .u32 0, .int .u32 0, .int .u32 0]) ?_ 0 _ rfl; (with_reducible repeat (first | refine blk_drewN ?_ _ | refine blk_drew ?_ | refine blk_alloc ?_ _)); exact BK298.out⟩
        have n4_ : Aside0 (Below w.heap.size w ((((((((w54.setCell ⟨gb298, 0, none⟩ (.int .u32 t290)).setCell ⟨gb298, 1, none⟩ (.int .u32 t291)).setCell ⟨gb298, 2, none⟩ (.int .u32 t292)).setCell ⟨gb298, 3, none⟩ (.int .u32 t293)).setCell ⟨gb298, 4, none⟩ (.int .u32 t294)).setCell ⟨gb298, 5, none⟩ (.int .u32 t295)).setCell ⟨gb298, 6, none⟩ (.int .u32 t296)).setCell ⟨gb298, 7, none⟩ (.int .u32 t297))) := ⟨by repeat (first | (with_reducible first | exact HB.out | apply below_alloc | apply pw_below_drewN | apply below_drew1 | refine below_set ?_ GE197.out | refine below_set ?_ GE209.out | refine below_set ?_ GE219.out | refine below_set ?_ GE298.out) | exact HB.out)⟩
        (try clear BK197)
        (try clear BK209)
        (try clear BK219)
        (try clear BK298)
        (try clear HB)
        generalize ((((((((w54.setCell ⟨gb298, 0, none⟩ (.int .u32 t290)).setCell ⟨gb298, 1, none⟩ (.int .u32 t291)).setCell ⟨gb298, 2, none⟩ (.int .u32 t292)).setCell ⟨gb298, 3, none⟩ (.int .u32 t293)).setCell ⟨gb298, 4, none⟩ (.int .u32 t294)).setCell ⟨gb298, 5, none⟩ (.int .u32 t295)).setCell ⟨gb298, 6, none⟩ (.int .u32 t296)).setCell ⟨gb298, 7, none⟩ (.int .u32 t297)) = w63 at n0_ n1_ n2_ n3_ n4_ ⊢
        have BK197 := n0_
        have BK209 := n1_
        have BK219 := n2_
        have BK298 := n3_
        have HB := n4_
        clear n0_ n1_ n2_ n3_ n4_
        have n0_ := Aside0.mk (blk_drew BK197.out)
        have n1_ := Aside0.mk (blk_drew BK209.out)
        have n2_ := Aside0.mk (blk_drew BK219.out)
        have n3_ := Aside0.mk (blk_drew BK298.out)
        have n4_ := Aside0.mk (below_drew1 HB.out)
        clear BK197
        clear BK209
        clear BK219
        clear BK298
        clear HB
        have BK197 := n0_
        have BK209 := n1_
        have BK219 := n2_
        have BK298 := n3_
        have HB := n4_
        clear n0_ n1_ n2_ n3_ n4_
        refine start_ (n := 6) (S := fun w' => w'.cell? ⟨gb219, 0, none⟩ = some (.int .u32 x220000_14) ∧ w'.cell? ⟨gb219, 1, none⟩ = some (.int .u32 x220001_14) ∧ w'.cell? ⟨gb219, 2, none⟩ = some (.int .u32 x220002_14) ∧ w'.cell? ⟨gb219, 3, none⟩ = some (.int .u32 x220003_14) ∧ w'.cell? ⟨gb219, 4, none⟩ = some (.int .u32 x220004_14) ∧ w'.cell? ⟨gb219, 5, none⟩ = some (.int .u32 x220005_14) ∧ w'.cell? ⟨gb219, 6, none⟩ = some (.int .u32 x220006_14) ∧ w'.cell? ⟨gb219, 7, none⟩ = some (.int .u32 x220007_14) ∧ w'.cell? ⟨gb298, 0, none⟩ = some (.int .u32 t290) ∧ w'.cell? ⟨gb298, 1, none⟩ = some (.int .u32 t291) ∧ w'.cell? ⟨gb298, 2, none⟩ = some (.int .u32 t292) ∧ w'.cell? ⟨gb298, 3, none⟩ = some (.int .u32 t293) ∧ w'.cell? ⟨gb298, 4, none⟩ = some (.int .u32 t294) ∧ w'.cell? ⟨gb298, 5, none⟩ = some (.int .u32 t295) ∧ w'.cell? ⟨gb298, 6, none⟩ = some (.int .u32 t296) ∧ w'.cell? ⟨gb298, 7, none⟩ = some (.int .u32 t297)) (ds := []) #[false, false, false, false, false, false] (by kernel_rfl) rfl rfl ⟨(blk_cell BK219.out 0).trans rfl, (blk_cell BK219.out 1).trans rfl, (blk_cell BK219.out 2).trans rfl, (blk_cell BK219.out 3).trans rfl, (blk_cell BK219.out 4).trans rfl, (blk_cell BK219.out 5).trans rfl, (blk_cell BK219.out 6).trans rfl, (blk_cell BK219.out 7).trans rfl, (blk_cell BK298.out 0).trans rfl, (blk_cell BK298.out 1).trans rfl, (blk_cell BK298.out 2).trans rfl, (blk_cell BK298.out 3).trans rfl, (blk_cell BK298.out 4).trans rfl, (blk_cell BK298.out 5).trans rfl, (blk_cell BK298.out 6).trans rfl, (blk_cell BK298.out 7).trans rfl⟩ (fun hHeld => ?_)
        generalize w63.drew = w64 at BK197 BK209 BK219 BK298 HB hHeld ⊢
        refine take_ (i := 0) (N := some 107) (v := ?_) (a' := ?_) #[true, false, false, false, false, false] rfl rfl (by kernel_rfl) (fun _ _ _ h => h) (Or.inl ⟨by rfl, ?_⟩) hHeld ?_ ?_
        rotate_left
        ·
         rintro w' ⟨s0, s1, s2, s3, s4, s5, s6, s7, s8, s9, s10, s11, s12, s13, s14, s15⟩
         (try simp only [add_plain] at s0 s1 s2 s3 s4 s5 s6 s7 s8 s9 s10 s11 s12 s13 s14 s15)
         go_simp
         with_reducible rfl
        rotate_left
        ·
         simp only [Act.put, List.setIfInBounds_toArray, List.set_cons_zero, List.set_cons_succ, i64_w, i32_w]
         rfl
        refine take_ (i := 1) (N := some 108) (v := ?_) (a' := ?_) #[true, true, false, false, false, false] rfl rfl (by kernel_rfl) (fun _ _ _ h => h) (Or.inl ⟨by rfl, ?_⟩) hHeld ?_ ?_
        rotate_left
        ·
         rintro w' ⟨s0, s1, s2, s3, s4, s5, s6, s7, s8, s9, s10, s11, s12, s13, s14, s15⟩
         (try simp only [add_plain] at s0 s1 s2 s3 s4 s5 s6 s7 s8 s9 s10 s11 s12 s13 s14 s15)
         go_simp
         with_reducible rfl
        rotate_left
        ·
         simp only [Act.put, List.setIfInBounds_toArray, List.set_cons_zero, List.set_cons_succ, i64_w, i32_w]
         rfl
        refine join_ (σ := Nat) 1 #[true, true, true, true, true, false] (fun s_ => [(109, .agg #[.int .u32 t299, .int .u32 t300, .int .u32 t301, .int .u32 t302, .int .u32 t303, .int .u32 t304, .int .u32 t305, .int .u32 t306]), (110, .agg #[.int .u32 t307, .int .u32 t308, .int .u32 t309, .int .u32 t310, .int .u32 t311, .int .u32 t312, .int .u32 t313, .int .u32 t314]), (13, .pointer (some ⟨s_, 0, none⟩))]) (fun s_ w' => (w'.cell? ⟨gb219, 0, none⟩ = some (.int .u32 x220000_14) ∧ w'.cell? ⟨gb219, 1, none⟩ = some (.int .u32 x220001_14) ∧ w'.cell? ⟨gb219, 2, none⟩ = some (.int .u32 x220002_14) ∧ w'.cell? ⟨gb219, 3, none⟩ = some (.int .u32 x220003_14) ∧ w'.cell? ⟨gb219, 4, none⟩ = some (.int .u32 x220004_14) ∧ w'.cell? ⟨gb219, 5, none⟩ = some (.int .u32 x220005_14) ∧ w'.cell? ⟨gb219, 6, none⟩ = some (.int .u32 x220006_14) ∧ w'.cell? ⟨gb219, 7, none⟩ = some (.int .u32 x220007_14) ∧ w'.cell? ⟨gb298, 0, none⟩ = some (.int .u32 t290) ∧ w'.cell? ⟨gb298, 1, none⟩ = some (.int .u32 t291) ∧ w'.cell? ⟨gb298, 2, none⟩ = some (.int .u32 t292) ∧ w'.cell? ⟨gb298, 3, none⟩ = some (.int .u32 t293) ∧ w'.cell? ⟨gb298, 4, none⟩ = some (.int .u32 t294) ∧ w'.cell? ⟨gb298, 5, none⟩ = some (.int .u32 t295) ∧ w'.cell? ⟨gb298, 6, none⟩ = some (.int .u32 t296) ∧ w'.cell? ⟨gb298, 7, none⟩ = some (.int .u32 t297)) ∧ (w'.heap[gb197]? = some (.cells #[.slice A0_0 l0_0.length c0_0, .int .i64 a0_1, .int .u64 a0_2, .int .u64 a0_3, .int .u64 a0_4, .int .u64 a0_5, .bool a0_6] 36 (0, 0))) ∧ (w'.heap[gb209]? = some (.cells #[.int .u32 t201, .int .u32 t202, .int .u32 t203, .int .u32 t204, .int .u32 t205, .int .u32 t206, .int .u32 t207, .int .u32 t208] 41 (0, 0))) ∧ (w'.heap[gb219]? = some (.cells #[.int .u32 x220000_14, .int .u32 x220001_14, .int .u32 x220002_14, .int .u32 x220003_14, .int .u32 x220004_14, .int .u32 x220005_14, .int .u32 x220006_14, .int .u32 x220007_14] 41 (0, 0))) ∧ (w'.heap[gb298]? = some (.cells #[.int .u32 t290, .int .u32 t291, .int .u32 t292, .int .u32 t293, .int .u32 t294, .int .u32 t295, .int .u32 t296, .int .u32 t297] 41 (0, 0))) ∧ (w'.heap[s_]? = some (.cells #[.int .u32 0, .int .u32 0, .int .u32 0, .int .u32 0, .int .u32 0, .int .u32 0, .int .u32 0, .int .u32 0] 41 (0, 0))) ∧ (w.heap.size ≤ s_) ∧ (w.heap.size ≤ s_) ∧ (gb197 ≠ s_) ∧ (s_ ≠ gb197) ∧ (gb209 ≠ s_) ∧ (s_ ≠ gb209) ∧ (gb219 ≠ s_) ∧ (s_ ≠ gb219) ∧ (gb298 ≠ s_) ∧ (s_ ≠ gb298) ∧ (Below w.heap.size w w')) ?_ ?_
        rotate_left
        ·
         intro hCont
         refine two_ (i := 2) (j := 4) (Ni := some 109) (Nj := some 13) #[true, true, true, false, false, false] #[true, true, false, false, true, false] rfl rfl rfl rfl (by kernel_rfl) (by decide) (by decide) (fun K hK => ?_) (fun K hK => ?_)
         ·
          skip
          refine goes_ Try.func13 (by kernel_rfl) rfl #[.agg #[.int .u32 t290, .int .u32 t291, .int .u32 t292, .int .u32 t293, .int .u32 t294, .int .u32 t295, .int .u32 t296, .int .u32 t297]] (by rfl) rfl rfl (by (try simp only [List.map_toArray, List.map_cons, List.map_nil]); first | done | rfl | (simp only [List.length_drop, List.length_take]; rfl)) ?_
          with_reducible refine (offertoryref09_Neg.calls t290 t291 t292 t293 t294 t295 t296 t297 t299 t300 t301 t302 t303 t304 t305 t306 _ A41.out).mono ?_
          rintro e w65 ⟨rfl, hb⟩
          refine ⟨_, rfl, ?_⟩
          have n0_ := law4A.keepB BK197 hb
          have n1_ := law4A.keepB BK209 hb
          have n2_ := law4A.keepB BK219 hb
          have n3_ := law4A.keepB BK298 hb
          have n4_ := Aside0.mk (below_step (by repeat (first | (with_reducible first | exact HB.out | apply below_alloc | apply pw_below_drewN | apply below_drew1 | refine below_set ?_ GE197.out | refine below_set ?_ GE209.out | refine below_set ?_ GE219.out | refine below_set ?_ GE298.out) | exact HB.out)) hb)
          clear BK197
          clear BK209
          clear BK219
          clear BK298
          clear HB
          have BK197 := n0_
          have BK209 := n1_
          have BK219 := n2_
          have BK298 := n3_
          have HB := n4_
          clear n0_ n1_ n2_ n3_ n4_
          (try clear hb)
          (try clear hb2)
          (try clear hk)
          (try clear hi)
          refine hK.out _ _ ⟨(blk_cell BK219.out 0).trans rfl, (blk_cell BK219.out 1).trans rfl, (blk_cell BK219.out 2).trans rfl, (blk_cell BK219.out 3).trans rfl, (blk_cell BK219.out 4).trans rfl, (blk_cell BK219.out 5).trans rfl, (blk_cell BK219.out 6).trans rfl, (blk_cell BK219.out 7).trans rfl, (blk_cell BK298.out 0).trans rfl, (blk_cell BK298.out 1).trans rfl, (blk_cell BK298.out 2).trans rfl, (blk_cell BK298.out 3).trans rfl, (blk_cell BK298.out 4).trans rfl, (blk_cell BK298.out 5).trans rfl, (blk_cell BK298.out 6).trans rfl, (blk_cell BK298.out 7).trans rfl⟩ (fun hHeld => ?_)
          clear hK K
          refine norm_ (a' := ?_) ?_ ?_
          rotate_left
          ·
           show Act.put _ (some 109) _ = _
           simp only [Act.put, List.setIfInBounds_toArray, List.set_cons_zero, List.set_cons_succ, i64_w, i32_w]
           rfl
          refine two_ (i := 3) (j := 4) (Ni := some 110) (Nj := some 13) #[true, true, true, true, false, false] #[true, true, true, false, true, false] rfl rfl rfl rfl (by kernel_rfl) (by decide) (by decide) (fun K hK => ?_) (fun K hK => ?_)
          ·
           skip
           refine goes_ Try.func16 (by kernel_rfl) rfl #[.agg #[.int .u32 x220000_14, .int .u32 x220001_14, .int .u32 x220002_14, .int .u32 x220003_14, .int .u32 x220004_14, .int .u32 x220005_14, .int .u32 x220006_14, .int .u32 x220007_14], .agg #[.int .u32 t299, .int .u32 t300, .int .u32 t301, .int .u32 t302, .int .u32 t303, .int .u32 t304, .int .u32 t305, .int .u32 t306]] (by rfl) rfl rfl (by (try simp only [List.map_toArray, List.map_cons, List.map_nil]); first | done | rfl | (simp only [List.length_drop, List.length_take]; rfl)) ?_
           with_reducible refine (offertoryref09_Add.calls x220000_14 x220001_14 x220002_14 x220003_14 x220004_14 x220005_14 x220006_14 x220007_14 t299 t300 t301 t302 t303 t304 t305 t306 t307 t308 t309 t310 t311 t312 t313 t314 _ A42.out).mono ?_
           rintro e w66 ⟨rfl, hb⟩
           refine ⟨_, rfl, ?_⟩
           have n0_ := law4A.keepB BK197 hb
           have n1_ := law4A.keepB BK209 hb
           have n2_ := law4A.keepB BK219 hb
           have n3_ := law4A.keepB BK298 hb
           have n4_ := Aside0.mk (below_step (by repeat (first | (with_reducible first | exact HB.out | apply below_alloc | apply pw_below_drewN | apply below_drew1 | refine below_set ?_ GE197.out | refine below_set ?_ GE209.out | refine below_set ?_ GE219.out | refine below_set ?_ GE298.out) | exact HB.out)) hb)
           clear BK197
           clear BK209
           clear BK219
           clear BK298
           clear HB
           have BK197 := n0_
           have BK209 := n1_
           have BK219 := n2_
           have BK298 := n3_
           have HB := n4_
           clear n0_ n1_ n2_ n3_ n4_
           (try clear hb)
           (try clear hb2)
           (try clear hk)
           (try clear hi)
           refine hK.out _ _ ⟨(blk_cell BK219.out 0).trans rfl, (blk_cell BK219.out 1).trans rfl, (blk_cell BK219.out 2).trans rfl, (blk_cell BK219.out 3).trans rfl, (blk_cell BK219.out 4).trans rfl, (blk_cell BK219.out 5).trans rfl, (blk_cell BK219.out 6).trans rfl, (blk_cell BK219.out 7).trans rfl, (blk_cell BK298.out 0).trans rfl, (blk_cell BK298.out 1).trans rfl, (blk_cell BK298.out 2).trans rfl, (blk_cell BK298.out 3).trans rfl, (blk_cell BK298.out 4).trans rfl, (blk_cell BK298.out 5).trans rfl, (blk_cell BK298.out 6).trans rfl, (blk_cell BK298.out 7).trans rfl⟩ (fun hHeld => ?_)
           clear hK K
           refine norm_ (a' := ?_) ?_ ?_
           rotate_left
           ·
            show Act.put _ (some 110) _ = _
            simp only [Act.put, List.setIfInBounds_toArray, List.set_cons_zero, List.set_cons_succ, i64_w, i32_w]
            rfl
           refine one_ (i := 4) (N := some 13) #[true, true, true, true, true, false] rfl rfl (by kernel_rfl) (by decide) (fun K hK => ?_)
           refine box_step ?hg (N := 13) ?hd (cs := #[.int .u32 0, .int .u32 0, .int .u32 0, .int .u32 0, .int .u32 0, .int .u32 0, .int .u32 0, .int .u32 0]) (t := 41) ?hr ?_; (case hd => rfl); (case hg => rfl); (case hr => first | (go_simp; done) | (go_simp; rfl))
           intro gb315 hg w67 hbox hb
           have n0_ := law4A.keepB BK197 hb
           have n1_ := law4A.keepB BK209 hb
           have n2_ := law4A.keepB BK219 hb
           have n3_ := law4A.keepB BK298 hb
           have n4_ := Aside0.mk (below_step (by repeat (first | (with_reducible first | exact HB.out | apply below_alloc | apply pw_below_drewN | apply below_drew1 | refine below_set ?_ GE197.out | refine below_set ?_ GE209.out | refine below_set ?_ GE219.out | refine below_set ?_ GE298.out) | exact HB.out)) hb)
           have n5_ := Aside0.mk (hbox)
           have n6_ := Aside0.mk ((by rw [hg]; exact (below_size (by repeat (first | (with_reducible first | exact HB.out | apply below_alloc | apply pw_below_drewN | apply below_drew1 | refine below_set ?_ GE197.out | refine below_set ?_ GE209.out | refine below_set ?_ GE219.out | refine below_set ?_ GE298.out) | exact HB.out))) : w.heap.size ≤ gb315))
           have n7_ := Aside0.mk ((by rw [hg]; exact (below_size (by repeat (first | (with_reducible first | exact HB.out | apply below_alloc | apply pw_below_drewN | apply below_drew1 | refine below_set ?_ GE197.out | refine below_set ?_ GE209.out | refine below_set ?_ GE219.out | refine below_set ?_ GE298.out) | exact HB.out))) : w.heap.size ≤ gb315))
           have n8_ := law4A.neL BK197 hg
           have n9_ := law4A.neG BK197 hg
           have n10_ := law4A.neL BK209 hg
           have n11_ := law4A.neG BK209 hg
           have n12_ := law4A.neL BK219 hg
           have n13_ := law4A.neG BK219 hg
           have n14_ := law4A.neL BK298 hg
           have n15_ := law4A.neG BK298 hg
           clear BK197
           clear BK209
           clear BK219
           clear BK298
           clear HB
           have BK197 := n0_
           have BK209 := n1_
           have BK219 := n2_
           have BK298 := n3_
           have HB := n4_
           have BK315 := n5_
           have GW315 := n6_
           have GE315 := n7_
           have NB197_315 := n8_
           have NB315_197 := n9_
           have NB209_315 := n10_
           have NB315_209 := n11_
           have NB219_315 := n12_
           have NB315_219 := n13_
           have NB298_315 := n14_
           have NB315_298 := n15_
           clear n0_ n1_ n2_ n3_ n4_ n5_ n6_ n7_ n8_ n9_ n10_ n11_ n12_ n13_ n14_ n15_
           clear hb hbox hg
           refine hK.out _ _ ⟨(blk_cell BK219.out 0).trans rfl, (blk_cell BK219.out 1).trans rfl, (blk_cell BK219.out 2).trans rfl, (blk_cell BK219.out 3).trans rfl, (blk_cell BK219.out 4).trans rfl, (blk_cell BK219.out 5).trans rfl, (blk_cell BK219.out 6).trans rfl, (blk_cell BK219.out 7).trans rfl, (blk_cell BK298.out 0).trans rfl, (blk_cell BK298.out 1).trans rfl, (blk_cell BK298.out 2).trans rfl, (blk_cell BK298.out 3).trans rfl, (blk_cell BK298.out 4).trans rfl, (blk_cell BK298.out 5).trans rfl, (blk_cell BK298.out 6).trans rfl, (blk_cell BK298.out 7).trans rfl⟩ (fun hHeld => ?_)
           clear hK K
           refine norm_ (a' := ?_) ?_ ?_
           rotate_left
           ·
            show Act.put _ (some 13) _ = _
            simp only [Act.put, List.setIfInBounds_toArray, List.set_cons_zero, List.set_cons_succ, i64_w, i32_w]
            rfl
           exact norm_ (by simp only [putAll, Act.put, List.setIfInBounds_toArray, List.set_cons_zero, List.set_cons_succ]) (hCont (gb315) _ ⟨hHeld, (by (with_reducible repeat (first | refine blk_drewN ?_ _ | refine blk_drew ?_ | refine blk_alloc ?_ _)); exact BK197.out), (by (with_reducible repeat (first | refine blk_drewN ?_ _ | refine blk_drew ?_ | refine blk_alloc ?_ _)); exact BK209.out), (by (with_reducible repeat (first | refine blk_drewN ?_ _ | refine blk_drew ?_ | refine blk_alloc ?_ _)); exact BK219.out), (by (with_reducible repeat (first | refine blk_drewN ?_ _ | refine blk_drew ?_ | refine blk_alloc ?_ _)); exact BK298.out), (by (with_reducible repeat (first | refine blk_drewN ?_ _ | refine blk_drew ?_ | refine blk_alloc ?_ _)); exact BK315.out), GW315.out, GE315.out, NB197_315.out, NB315_197.out, NB209_315.out, NB315_209.out, NB219_315.out, NB315_219.out, NB298_315.out, NB315_298.out, (by repeat (first | (with_reducible first | exact HB.out | apply below_alloc | apply pw_below_drewN | apply below_drew1 | refine below_set ?_ GE197.out | refine below_set ?_ GE209.out | refine below_set ?_ GE219.out | refine below_set ?_ GE298.out | refine below_set ?_ GE315.out) | exact HB.out))⟩)
          ·
           skip
           refine box_step ?hg (N := 13) ?hd (cs := #[.int .u32 0, .int .u32 0, .int .u32 0, .int .u32 0, .int .u32 0, .int .u32 0, .int .u32 0, .int .u32 0]) (t := 41) ?hr ?_; (case hd => rfl); (case hg => rfl); (case hr => first | (go_simp; done) | (go_simp; rfl))
           intro gb315 hg w66 hbox hb
           have n0_ := law4A.keepB BK197 hb
           have n1_ := law4A.keepB BK209 hb
           have n2_ := law4A.keepB BK219 hb
           have n3_ := law4A.keepB BK298 hb
           have n4_ := Aside0.mk (below_step (by repeat (first | (with_reducible first | exact HB.out | apply below_alloc | apply pw_below_drewN | apply below_drew1 | refine below_set ?_ GE197.out | refine below_set ?_ GE209.out | refine below_set ?_ GE219.out | refine below_set ?_ GE298.out) | exact HB.out)) hb)
           have n5_ := Aside0.mk (hbox)
           have n6_ := Aside0.mk ((by rw [hg]; exact (below_size (by repeat (first | (with_reducible first | exact HB.out | apply below_alloc | apply pw_below_drewN | apply below_drew1 | refine below_set ?_ GE197.out | refine below_set ?_ GE209.out | refine below_set ?_ GE219.out | refine below_set ?_ GE298.out) | exact HB.out))) : w.heap.size ≤ gb315))
           have n7_ := Aside0.mk ((by rw [hg]; exact (below_size (by repeat (first | (with_reducible first | exact HB.out | apply below_alloc | apply pw_below_drewN | apply below_drew1 | refine below_set ?_ GE197.out | refine below_set ?_ GE209.out | refine below_set ?_ GE219.out | refine below_set ?_ GE298.out) | exact HB.out))) : w.heap.size ≤ gb315))
           have n8_ := law4A.neL BK197 hg
           have n9_ := law4A.neG BK197 hg
           have n10_ := law4A.neL BK209 hg
           have n11_ := law4A.neG BK209 hg
           have n12_ := law4A.neL BK219 hg
           have n13_ := law4A.neG BK219 hg
           have n14_ := law4A.neL BK298 hg
           have n15_ := law4A.neG BK298 hg
           clear BK197
           clear BK209
           clear BK219
           clear BK298
           clear HB
           have BK197 := n0_
           have BK209 := n1_
           have BK219 := n2_
           have BK298 := n3_
           have HB := n4_
           have BK315 := n5_
           have GW315 := n6_
           have GE315 := n7_
           have NB197_315 := n8_
           have NB315_197 := n9_
           have NB209_315 := n10_
           have NB315_209 := n11_
           have NB219_315 := n12_
           have NB315_219 := n13_
           have NB298_315 := n14_
           have NB315_298 := n15_
           clear n0_ n1_ n2_ n3_ n4_ n5_ n6_ n7_ n8_ n9_ n10_ n11_ n12_ n13_ n14_ n15_
           clear hb hbox hg
           refine hK.out _ _ ⟨(blk_cell BK219.out 0).trans rfl, (blk_cell BK219.out 1).trans rfl, (blk_cell BK219.out 2).trans rfl, (blk_cell BK219.out 3).trans rfl, (blk_cell BK219.out 4).trans rfl, (blk_cell BK219.out 5).trans rfl, (blk_cell BK219.out 6).trans rfl, (blk_cell BK219.out 7).trans rfl, (blk_cell BK298.out 0).trans rfl, (blk_cell BK298.out 1).trans rfl, (blk_cell BK298.out 2).trans rfl, (blk_cell BK298.out 3).trans rfl, (blk_cell BK298.out 4).trans rfl, (blk_cell BK298.out 5).trans rfl, (blk_cell BK298.out 6).trans rfl, (blk_cell BK298.out 7).trans rfl⟩ (fun hHeld => ?_)
           clear hK K
           refine norm_ (a' := ?_) ?_ ?_
           rotate_left
           ·
            show Act.put _ (some 13) _ = _
            simp only [Act.put, List.setIfInBounds_toArray, List.set_cons_zero, List.set_cons_succ, i64_w, i32_w]
            rfl
           refine one_ (i := 3) (N := some 110) #[true, true, true, true, true, false] rfl rfl (by kernel_rfl) (by decide) (fun K hK => ?_)
           refine goes_ Try.func16 (by kernel_rfl) rfl #[.agg #[.int .u32 x220000_14, .int .u32 x220001_14, .int .u32 x220002_14, .int .u32 x220003_14, .int .u32 x220004_14, .int .u32 x220005_14, .int .u32 x220006_14, .int .u32 x220007_14], .agg #[.int .u32 t299, .int .u32 t300, .int .u32 t301, .int .u32 t302, .int .u32 t303, .int .u32 t304, .int .u32 t305, .int .u32 t306]] (by rfl) rfl rfl (by (try simp only [List.map_toArray, List.map_cons, List.map_nil]); first | done | rfl | (simp only [List.length_drop, List.length_take]; rfl)) ?_
           with_reducible refine (offertoryref09_Add.calls x220000_14 x220001_14 x220002_14 x220003_14 x220004_14 x220005_14 x220006_14 x220007_14 t299 t300 t301 t302 t303 t304 t305 t306 t307 t308 t309 t310 t311 t312 t313 t314 _ A42.out).mono ?_
           rintro e w67 ⟨rfl, hb⟩
           refine ⟨_, rfl, ?_⟩
           have n0_ := law4A.keepB BK197 hb
           have n1_ := law4A.keepB BK209 hb
           have n2_ := law4A.keepB BK219 hb
           have n3_ := law4A.keepB BK298 hb
           have n4_ := law4A.keepB BK315 hb
           have n5_ := Aside0.mk (below_step (by repeat (first | (with_reducible first | exact HB.out | apply below_alloc | apply pw_below_drewN | apply below_drew1 | refine below_set ?_ GE197.out | refine below_set ?_ GE209.out | refine below_set ?_ GE219.out | refine below_set ?_ GE298.out | refine below_set ?_ GE315.out) | exact HB.out)) hb)
           clear BK197
           clear BK209
           clear BK219
           clear BK298
           clear BK315
           clear HB
           have BK197 := n0_
           have BK209 := n1_
           have BK219 := n2_
           have BK298 := n3_
           have BK315 := n4_
           have HB := n5_
           clear n0_ n1_ n2_ n3_ n4_ n5_
           (try clear hb)
           (try clear hb2)
           (try clear hk)
           (try clear hi)
           refine hK.out _ _ ⟨(blk_cell BK219.out 0).trans rfl, (blk_cell BK219.out 1).trans rfl, (blk_cell BK219.out 2).trans rfl, (blk_cell BK219.out 3).trans rfl, (blk_cell BK219.out 4).trans rfl, (blk_cell BK219.out 5).trans rfl, (blk_cell BK219.out 6).trans rfl, (blk_cell BK219.out 7).trans rfl, (blk_cell BK298.out 0).trans rfl, (blk_cell BK298.out 1).trans rfl, (blk_cell BK298.out 2).trans rfl, (blk_cell BK298.out 3).trans rfl, (blk_cell BK298.out 4).trans rfl, (blk_cell BK298.out 5).trans rfl, (blk_cell BK298.out 6).trans rfl, (blk_cell BK298.out 7).trans rfl⟩ (fun hHeld => ?_)
           clear hK K
           refine norm_ (a' := ?_) ?_ ?_
           rotate_left
           ·
            show Act.put _ (some 110) _ = _
            simp only [Act.put, List.setIfInBounds_toArray, List.set_cons_zero, List.set_cons_succ, i64_w, i32_w]
            rfl
           exact norm_ (by simp only [putAll, Act.put, List.setIfInBounds_toArray, List.set_cons_zero, List.set_cons_succ]) (hCont (gb315) _ ⟨hHeld, (by (with_reducible repeat (first | refine blk_drewN ?_ _ | refine blk_drew ?_ | refine blk_alloc ?_ _)); exact BK197.out), (by (with_reducible repeat (first | refine blk_drewN ?_ _ | refine blk_drew ?_ | refine blk_alloc ?_ _)); exact BK209.out), (by (with_reducible repeat (first | refine blk_drewN ?_ _ | refine blk_drew ?_ | refine blk_alloc ?_ _)); exact BK219.out), (by (with_reducible repeat (first | refine blk_drewN ?_ _ | refine blk_drew ?_ | refine blk_alloc ?_ _)); exact BK298.out), (by (with_reducible repeat (first | refine blk_drewN ?_ _ | refine blk_drew ?_ | refine blk_alloc ?_ _)); exact BK315.out), GW315.out, GE315.out, NB197_315.out, NB315_197.out, NB209_315.out, NB315_209.out, NB219_315.out, NB315_219.out, NB298_315.out, NB315_298.out, (by repeat (first | (with_reducible first | exact HB.out | apply below_alloc | apply pw_below_drewN | apply below_drew1 | refine below_set ?_ GE197.out | refine below_set ?_ GE209.out | refine below_set ?_ GE219.out | refine below_set ?_ GE298.out | refine below_set ?_ GE315.out) | exact HB.out))⟩)
         ·
          skip
          refine box_step ?hg (N := 13) ?hd (cs := #[.int .u32 0, .int .u32 0, .int .u32 0, .int .u32 0, .int .u32 0, .int .u32 0, .int .u32 0, .int .u32 0]) (t := 41) ?hr ?_; (case hd => rfl); (case hg => rfl); (case hr => first | (go_simp; done) | (go_simp; rfl))
          intro gb315 hg w65 hbox hb
          have n0_ := law4A.keepB BK197 hb
          have n1_ := law4A.keepB BK209 hb
          have n2_ := law4A.keepB BK219 hb
          have n3_ := law4A.keepB BK298 hb
          have n4_ := Aside0.mk (below_step (by repeat (first | (with_reducible first | exact HB.out | apply below_alloc | apply pw_below_drewN | apply below_drew1 | refine below_set ?_ GE197.out | refine below_set ?_ GE209.out | refine below_set ?_ GE219.out | refine below_set ?_ GE298.out) | exact HB.out)) hb)
          have n5_ := Aside0.mk (hbox)
          have n6_ := Aside0.mk ((by rw [hg]; exact (below_size (by repeat (first | (with_reducible first | exact HB.out | apply below_alloc | apply pw_below_drewN | apply below_drew1 | refine below_set ?_ GE197.out | refine below_set ?_ GE209.out | refine below_set ?_ GE219.out | refine below_set ?_ GE298.out) | exact HB.out))) : w.heap.size ≤ gb315))
          have n7_ := Aside0.mk ((by rw [hg]; exact (below_size (by repeat (first | (with_reducible first | exact HB.out | apply below_alloc | apply pw_below_drewN | apply below_drew1 | refine below_set ?_ GE197.out | refine below_set ?_ GE209.out | refine below_set ?_ GE219.out | refine below_set ?_ GE298.out) | exact HB.out))) : w.heap.size ≤ gb315))
          have n8_ := law4A.neL BK197 hg
          have n9_ := law4A.neG BK197 hg
          have n10_ := law4A.neL BK209 hg
          have n11_ := law4A.neG BK209 hg
          have n12_ := law4A.neL BK219 hg
          have n13_ := law4A.neG BK219 hg
          have n14_ := law4A.neL BK298 hg
          have n15_ := law4A.neG BK298 hg
          clear BK197
          clear BK209
          clear BK219
          clear BK298
          clear HB
          have BK197 := n0_
          have BK209 := n1_
          have BK219 := n2_
          have BK298 := n3_
          have HB := n4_
          have BK315 := n5_
          have GW315 := n6_
          have GE315 := n7_
          have NB197_315 := n8_
          have NB315_197 := n9_
          have NB209_315 := n10_
          have NB315_209 := n11_
          have NB219_315 := n12_
          have NB315_219 := n13_
          have NB298_315 := n14_
          have NB315_298 := n15_
          clear n0_ n1_ n2_ n3_ n4_ n5_ n6_ n7_ n8_ n9_ n10_ n11_ n12_ n13_ n14_ n15_
          clear hb hbox hg
          refine hK.out _ _ ⟨(blk_cell BK219.out 0).trans rfl, (blk_cell BK219.out 1).trans rfl, (blk_cell BK219.out 2).trans rfl, (blk_cell BK219.out 3).trans rfl, (blk_cell BK219.out 4).trans rfl, (blk_cell BK219.out 5).trans rfl, (blk_cell BK219.out 6).trans rfl, (blk_cell BK219.out 7).trans rfl, (blk_cell BK298.out 0).trans rfl, (blk_cell BK298.out 1).trans rfl, (blk_cell BK298.out 2).trans rfl, (blk_cell BK298.out 3).trans rfl, (blk_cell BK298.out 4).trans rfl, (blk_cell BK298.out 5).trans rfl, (blk_cell BK298.out 6).trans rfl, (blk_cell BK298.out 7).trans rfl⟩ (fun hHeld => ?_)
          clear hK K
          refine norm_ (a' := ?_) ?_ ?_
          rotate_left
          ·
           show Act.put _ (some 13) _ = _
           simp only [Act.put, List.setIfInBounds_toArray, List.set_cons_zero, List.set_cons_succ, i64_w, i32_w]
           rfl
          refine one_ (i := 2) (N := some 109) #[true, true, true, false, true, false] rfl rfl (by kernel_rfl) (by decide) (fun K hK => ?_)
          refine goes_ Try.func13 (by kernel_rfl) rfl #[.agg #[.int .u32 t290, .int .u32 t291, .int .u32 t292, .int .u32 t293, .int .u32 t294, .int .u32 t295, .int .u32 t296, .int .u32 t297]] (by rfl) rfl rfl (by (try simp only [List.map_toArray, List.map_cons, List.map_nil]); first | done | rfl | (simp only [List.length_drop, List.length_take]; rfl)) ?_
          with_reducible refine (offertoryref09_Neg.calls t290 t291 t292 t293 t294 t295 t296 t297 t299 t300 t301 t302 t303 t304 t305 t306 _ A41.out).mono ?_
          rintro e w66 ⟨rfl, hb⟩
          refine ⟨_, rfl, ?_⟩
          have n0_ := law4A.keepB BK197 hb
          have n1_ := law4A.keepB BK209 hb
          have n2_ := law4A.keepB BK219 hb
          have n3_ := law4A.keepB BK298 hb
          have n4_ := law4A.keepB BK315 hb
          have n5_ := Aside0.mk (below_step (by repeat (first | (with_reducible first | exact HB.out | apply below_alloc | apply pw_below_drewN | apply below_drew1 | refine below_set ?_ GE197.out | refine below_set ?_ GE209.out | refine below_set ?_ GE219.out | refine below_set ?_ GE298.out | refine below_set ?_ GE315.out) | exact HB.out)) hb)
          clear BK197
          clear BK209
          clear BK219
          clear BK298
          clear BK315
          clear HB
          have BK197 := n0_
          have BK209 := n1_
          have BK219 := n2_
          have BK298 := n3_
          have BK315 := n4_
          have HB := n5_
          clear n0_ n1_ n2_ n3_ n4_ n5_
          (try clear hb)
          (try clear hb2)
          (try clear hk)
          (try clear hi)
          refine hK.out _ _ ⟨(blk_cell BK219.out 0).trans rfl, (blk_cell BK219.out 1).trans rfl, (blk_cell BK219.out 2).trans rfl, (blk_cell BK219.out 3).trans rfl, (blk_cell BK219.out 4).trans rfl, (blk_cell BK219.out 5).trans rfl, (blk_cell BK219.out 6).trans rfl, (blk_cell BK219.out 7).trans rfl, (blk_cell BK298.out 0).trans rfl, (blk_cell BK298.out 1).trans rfl, (blk_cell BK298.out 2).trans rfl, (blk_cell BK298.out 3).trans rfl, (blk_cell BK298.out 4).trans rfl, (blk_cell BK298.out 5).trans rfl, (blk_cell BK298.out 6).trans rfl, (blk_cell BK298.out 7).trans rfl⟩ (fun hHeld => ?_)
          clear hK K
          refine norm_ (a' := ?_) ?_ ?_
          rotate_left
          ·
           show Act.put _ (some 109) _ = _
           simp only [Act.put, List.setIfInBounds_toArray, List.set_cons_zero, List.set_cons_succ, i64_w, i32_w]
           rfl
          refine one_ (i := 3) (N := some 110) #[true, true, true, true, true, false] rfl rfl (by kernel_rfl) (by decide) (fun K hK => ?_)
          refine goes_ Try.func16 (by kernel_rfl) rfl #[.agg #[.int .u32 x220000_14, .int .u32 x220001_14, .int .u32 x220002_14, .int .u32 x220003_14, .int .u32 x220004_14, .int .u32 x220005_14, .int .u32 x220006_14, .int .u32 x220007_14], .agg #[.int .u32 t299, .int .u32 t300, .int .u32 t301, .int .u32 t302, .int .u32 t303, .int .u32 t304, .int .u32 t305, .int .u32 t306]] (by rfl) rfl rfl (by (try simp only [List.map_toArray, List.map_cons, List.map_nil]); first | done | rfl | (simp only [List.length_drop, List.length_take]; rfl)) ?_
          with_reducible refine (offertoryref09_Add.calls x220000_14 x220001_14 x220002_14 x220003_14 x220004_14 x220005_14 x220006_14 x220007_14 t299 t300 t301 t302 t303 t304 t305 t306 t307 t308 t309 t310 t311 t312 t313 t314 _ A42.out).mono ?_
          rintro e w67 ⟨rfl, hb⟩
          refine ⟨_, rfl, ?_⟩
          have n0_ := law4A.keepB BK197 hb
          have n1_ := law4A.keepB BK209 hb
          have n2_ := law4A.keepB BK219 hb
          have n3_ := law4A.keepB BK298 hb
          have n4_ := law4A.keepB BK315 hb
          have n5_ := Aside0.mk (below_step (by repeat (first | (with_reducible first | exact HB.out | apply below_alloc | apply pw_below_drewN | apply below_drew1 | refine below_set ?_ GE197.out | refine below_set ?_ GE209.out | refine below_set ?_ GE219.out | refine below_set ?_ GE298.out | refine below_set ?_ GE315.out) | exact HB.out)) hb)
          clear BK197
          clear BK209
          clear BK219
          clear BK298
          clear BK315
          clear HB
          have BK197 := n0_
          have BK209 := n1_
          have BK219 := n2_
          have BK298 := n3_
          have BK315 := n4_
          have HB := n5_
          clear n0_ n1_ n2_ n3_ n4_ n5_
          (try clear hb)
          (try clear hb2)
          (try clear hk)
          (try clear hi)
          refine hK.out _ _ ⟨(blk_cell BK219.out 0).trans rfl, (blk_cell BK219.out 1).trans rfl, (blk_cell BK219.out 2).trans rfl, (blk_cell BK219.out 3).trans rfl, (blk_cell BK219.out 4).trans rfl, (blk_cell BK219.out 5).trans rfl, (blk_cell BK219.out 6).trans rfl, (blk_cell BK219.out 7).trans rfl, (blk_cell BK298.out 0).trans rfl, (blk_cell BK298.out 1).trans rfl, (blk_cell BK298.out 2).trans rfl, (blk_cell BK298.out 3).trans rfl, (blk_cell BK298.out 4).trans rfl, (blk_cell BK298.out 5).trans rfl, (blk_cell BK298.out 6).trans rfl, (blk_cell BK298.out 7).trans rfl⟩ (fun hHeld => ?_)
          clear hK K
          refine norm_ (a' := ?_) ?_ ?_
          rotate_left
          ·
           show Act.put _ (some 110) _ = _
           simp only [Act.put, List.setIfInBounds_toArray, List.set_cons_zero, List.set_cons_succ, i64_w, i32_w]
           rfl
          exact norm_ (by simp only [putAll, Act.put, List.setIfInBounds_toArray, List.set_cons_zero, List.set_cons_succ]) (hCont (gb315) _ ⟨hHeld, (by (with_reducible repeat (first | refine blk_drewN ?_ _ | refine blk_drew ?_ | refine blk_alloc ?_ _)); exact BK197.out), (by (with_reducible repeat (first | refine blk_drewN ?_ _ | refine blk_drew ?_ | refine blk_alloc ?_ _)); exact BK209.out), (by (with_reducible repeat (first | refine blk_drewN ?_ _ | refine blk_drew ?_ | refine blk_alloc ?_ _)); exact BK219.out), (by (with_reducible repeat (first | refine blk_drewN ?_ _ | refine blk_drew ?_ | refine blk_alloc ?_ _)); exact BK298.out), (by (with_reducible repeat (first | refine blk_drewN ?_ _ | refine blk_drew ?_ | refine blk_alloc ?_ _)); exact BK315.out), GW315.out, GE315.out, NB197_315.out, NB315_197.out, NB209_315.out, NB315_209.out, NB219_315.out, NB315_219.out, NB298_315.out, NB315_298.out, (by repeat (first | (with_reducible first | exact HB.out | apply below_alloc | apply pw_below_drewN | apply below_drew1 | refine below_set ?_ GE197.out | refine below_set ?_ GE209.out | refine below_set ?_ GE219.out | refine below_set ?_ GE298.out | refine below_set ?_ GE315.out) | exact HB.out))⟩)
        rintro gb315 w68 ⟨hS_, h0_, h1_, h2_, h3_, h4_, h5_, h6_, h7_, h8_, h9_, h10_, h11_, h12_, h13_, h14_, h15_⟩
        have n0_ : Aside0 (w68.heap[gb197]? = some (.cells #[.slice A0_0 l0_0.length c0_0, .int .i64 a0_1, .int .u64 a0_2, .int .u64 a0_3, .int .u64 a0_4, .int .u64 a0_5, .bool a0_6] 36 (0, 0))) := ⟨h0_⟩
        have n1_ : Aside0 (w68.heap[gb209]? = some (.cells #[.int .u32 t201, .int .u32 t202, .int .u32 t203, .int .u32 t204, .int .u32 t205, .int .u32 t206, .int .u32 t207, .int .u32 t208] 41 (0, 0))) := ⟨h1_⟩
        have n2_ : Aside0 (w68.heap[gb219]? = some (.cells #[.int .u32 x220000_14, .int .u32 x220001_14, .int .u32 x220002_14, .int .u32 x220003_14, .int .u32 x220004_14, .int .u32 x220005_14, .int .u32 x220006_14, .int .u32 x220007_14] 41 (0, 0))) := ⟨h2_⟩
        have n3_ : Aside0 (w68.heap[gb298]? = some (.cells #[.int .u32 t290, .int .u32 t291, .int .u32 t292, .int .u32 t293, .int .u32 t294, .int .u32 t295, .int .u32 t296, .int .u32 t297] 41 (0, 0))) := ⟨h3_⟩
        have n4_ : Aside0 (w68.heap[gb315]? = some (.cells #[.int .u32 0, .int .u32 0, .int .u32 0, .int .u32 0, .int .u32 0, .int .u32 0, .int .u32 0, .int .u32 0] 41 (0, 0))) := ⟨h4_⟩
        have n5_ : Aside0 (w.heap.size ≤ gb315) := ⟨h5_⟩
        have n6_ : Aside0 (w.heap.size ≤ gb315) := ⟨h6_⟩
        have n7_ : Aside0 (gb197 ≠ gb315) := ⟨h7_⟩
        have n8_ : Aside0 (gb315 ≠ gb197) := ⟨h8_⟩
        have n9_ : Aside0 (gb209 ≠ gb315) := ⟨h9_⟩
        have n10_ : Aside0 (gb315 ≠ gb209) := ⟨h10_⟩
        have n11_ : Aside0 (gb219 ≠ gb315) := ⟨h11_⟩
        have n12_ : Aside0 (gb315 ≠ gb219) := ⟨h12_⟩
        have n13_ : Aside0 (gb298 ≠ gb315) := ⟨h13_⟩
        have n14_ : Aside0 (gb315 ≠ gb298) := ⟨h14_⟩
        have n15_ : Aside0 (Below w.heap.size w w68) := ⟨h15_⟩
        clear BK197
        clear BK209
        clear BK219
        clear BK298
        clear HB
        clear h0_ h1_ h2_ h3_ h4_ h5_ h6_ h7_ h8_ h9_ h10_ h11_ h12_ h13_ h14_ h15_
        have BK197 := n0_
        have BK209 := n1_
        have BK219 := n2_
        have BK298 := n3_
        have BK315 := n4_
        have GW315 := n5_
        have GE315 := n6_
        have NB197_315 := n7_
        have NB315_197 := n8_
        have NB209_315 := n9_
        have NB315_209 := n10_
        have NB219_315 := n11_
        have NB315_219 := n12_
        have NB298_315 := n13_
        have NB315_298 := n14_
        have HB := n15_
        clear n0_ n1_ n2_ n3_ n4_ n5_ n6_ n7_ n8_ n9_ n10_ n11_ n12_ n13_ n14_ n15_
        have hHeld : w68.cell? ⟨gb219, 0, none⟩ = some (.int .u32 x220000_14) ∧ w68.cell? ⟨gb219, 1, none⟩ = some (.int .u32 x220001_14) ∧ w68.cell? ⟨gb219, 2, none⟩ = some (.int .u32 x220002_14) ∧ w68.cell? ⟨gb219, 3, none⟩ = some (.int .u32 x220003_14) ∧ w68.cell? ⟨gb219, 4, none⟩ = some (.int .u32 x220004_14) ∧ w68.cell? ⟨gb219, 5, none⟩ = some (.int .u32 x220005_14) ∧ w68.cell? ⟨gb219, 6, none⟩ = some (.int .u32 x220006_14) ∧ w68.cell? ⟨gb219, 7, none⟩ = some (.int .u32 x220007_14) ∧ w68.cell? ⟨gb298, 0, none⟩ = some (.int .u32 t290) ∧ w68.cell? ⟨gb298, 1, none⟩ = some (.int .u32 t291) ∧ w68.cell? ⟨gb298, 2, none⟩ = some (.int .u32 t292) ∧ w68.cell? ⟨gb298, 3, none⟩ = some (.int .u32 t293) ∧ w68.cell? ⟨gb298, 4, none⟩ = some (.int .u32 t294) ∧ w68.cell? ⟨gb298, 5, none⟩ = some (.int .u32 t295) ∧ w68.cell? ⟨gb298, 6, none⟩ = some (.int .u32 t296) ∧ w68.cell? ⟨gb298, 7, none⟩ = some (.int .u32 t297) := hS_
        refine norm_ (a' := ?_) ?_ ?_
        rotate_left
        ·
         simp only [putAll, Act.put, List.setIfInBounds_toArray, List.set_cons_zero, List.set_cons_succ]
         rfl
        refine one_ (i := 5) (N := none) #[true, true, true, true, true, true] rfl rfl (by kernel_rfl) (by decide) (fun K hK => ?_)
        have hs69 : w68.cell? ⟨gb315, 0, none⟩ = some (.int .u32 0) := (blk_cell BK315.out 0).trans rfl
        have hfs69 := blk_frozen BK315.out 0
        have hns69_0 := NB197_315.out
        have hns69_1 := NB209_315.out
        have hns69_2 := NB219_315.out
        have hns69_3 := NB298_315.out
        have hms69_0 := NB315_197.out
        have hms69_1 := NB315_209.out
        have hms69_2 := NB315_219.out
        have hms69_3 := NB315_298.out
        have hs70 : w68.cell? ⟨gb315, 1, none⟩ = some (.int .u32 0) := (blk_cell BK315.out 1).trans rfl
        have hfs70 := blk_frozen BK315.out 1
        have hns70_0 := NB197_315.out
        have hns70_1 := NB209_315.out
        have hns70_2 := NB219_315.out
        have hns70_3 := NB298_315.out
        have hms70_0 := NB315_197.out
        have hms70_1 := NB315_209.out
        have hms70_2 := NB315_219.out
        have hms70_3 := NB315_298.out
        have hs71 : w68.cell? ⟨gb315, 2, none⟩ = some (.int .u32 0) := (blk_cell BK315.out 2).trans rfl
        have hfs71 := blk_frozen BK315.out 2
        have hns71_0 := NB197_315.out
        have hns71_1 := NB209_315.out
        have hns71_2 := NB219_315.out
        have hns71_3 := NB298_315.out
        have hms71_0 := NB315_197.out
        have hms71_1 := NB315_209.out
        have hms71_2 := NB315_219.out
        have hms71_3 := NB315_298.out
        have hs72 : w68.cell? ⟨gb315, 3, none⟩ = some (.int .u32 0) := (blk_cell BK315.out 3).trans rfl
        have hfs72 := blk_frozen BK315.out 3
        have hns72_0 := NB197_315.out
        have hns72_1 := NB209_315.out
        have hns72_2 := NB219_315.out
        have hns72_3 := NB298_315.out
        have hms72_0 := NB315_197.out
        have hms72_1 := NB315_209.out
        have hms72_2 := NB315_219.out
        have hms72_3 := NB315_298.out
        have hs73 : w68.cell? ⟨gb315, 4, none⟩ = some (.int .u32 0) := (blk_cell BK315.out 4).trans rfl
        have hfs73 := blk_frozen BK315.out 4
        have hns73_0 := NB197_315.out
        have hns73_1 := NB209_315.out
        have hns73_2 := NB219_315.out
        have hns73_3 := NB298_315.out
        have hms73_0 := NB315_197.out
        have hms73_1 := NB315_209.out
        have hms73_2 := NB315_219.out
        have hms73_3 := NB315_298.out
        have hs74 : w68.cell? ⟨gb315, 5, none⟩ = some (.int .u32 0) := (blk_cell BK315.out 5).trans rfl
        have hfs74 := blk_frozen BK315.out 5
        have hns74_0 := NB197_315.out
        have hns74_1 := NB209_315.out
        have hns74_2 := NB219_315.out
        have hns74_3 := NB298_315.out
        have hms74_0 := NB315_197.out
        have hms74_1 := NB315_209.out
        have hms74_2 := NB315_219.out
        have hms74_3 := NB315_298.out
        have hs75 : w68.cell? ⟨gb315, 6, none⟩ = some (.int .u32 0) := (blk_cell BK315.out 6).trans rfl
        have hfs75 := blk_frozen BK315.out 6
        have hns75_0 := NB197_315.out
        have hns75_1 := NB209_315.out
        have hns75_2 := NB219_315.out
        have hns75_3 := NB298_315.out
        have hms75_0 := NB315_197.out
        have hms75_1 := NB315_209.out
        have hms75_2 := NB315_219.out
        have hms75_3 := NB315_298.out
        have hs76 : w68.cell? ⟨gb315, 7, none⟩ = some (.int .u32 0) := (blk_cell BK315.out 7).trans rfl
        have hfs76 := blk_frozen BK315.out 7
        have hns76_0 := NB197_315.out
        have hns76_1 := NB209_315.out
        have hns76_2 := NB219_315.out
        have hns76_3 := NB298_315.out
        have hms76_0 := NB315_197.out
        have hms76_1 := NB315_209.out
        have hms76_2 := NB315_219.out
        have hms76_3 := NB315_298.out
        refine skip_ (w1 := ?_) (by rfl) rfl ?_ ?_
        rotate_left
        ·
         go_simp
         rfl
        refine hK.out _ _ ⟨((cell_far (p := ⟨gb315, _, none⟩) NB219_315.out _).trans (((cell_far (p := ⟨gb315, _, none⟩) NB219_315.out _).trans (((cell_far (p := ⟨gb315, _, none⟩) NB219_315.out _).trans (((cell_far (p := ⟨gb315, _, none⟩) NB219_315.out _).trans (((cell_far (p := ⟨gb315, _, none⟩) NB219_315.out _).trans (((cell_far (p := ⟨gb315, _, none⟩) NB219_315.out _).trans (((cell_far (p := ⟨gb315, _, none⟩) NB219_315.out _).trans (((cell_far (p := ⟨gb315, _, none⟩) NB219_315.out _).trans (hHeld.1)))))))))))))))), ((cell_far (p := ⟨gb315, _, none⟩) NB219_315.out _).trans (((cell_far (p := ⟨gb315, _, none⟩) NB219_315.out _).trans (((cell_far (p := ⟨gb315, _, none⟩) NB219_315.out _).trans (((cell_far (p := ⟨gb315, _, none⟩) NB219_315.out _).trans (((cell_far (p := ⟨gb315, _, none⟩) NB219_315.out _).trans (((cell_far (p := ⟨gb315, _, none⟩) NB219_315.out _).trans (((cell_far (p := ⟨gb315, _, none⟩) NB219_315.out _).trans (((cell_far (p := ⟨gb315, _, none⟩) NB219_315.out _).trans (hHeld.2.1)))))))))))))))), ((cell_far (p := ⟨gb315, _, none⟩) NB219_315.out _).trans (((cell_far (p := ⟨gb315, _, none⟩) NB219_315.out _).trans (((cell_far (p := ⟨gb315, _, none⟩) NB219_315.out _).trans (((cell_far (p := ⟨gb315, _, none⟩) NB219_315.out _).trans (((cell_far (p := ⟨gb315, _, none⟩) NB219_315.out _).trans (((cell_far (p := ⟨gb315, _, none⟩) NB219_315.out _).trans (((cell_far (p := ⟨gb315, _, none⟩) NB219_315.out _).trans (((cell_far (p := ⟨gb315, _, none⟩) NB219_315.out _).trans (hHeld.2.2.1)))))))))))))))), ((cell_far (p := ⟨gb315, _, none⟩) NB219_315.out _).trans (((cell_far (p := ⟨gb315, _, none⟩) NB219_315.out _).trans (((cell_far (p := ⟨gb315, _, none⟩) NB219_315.out _).trans (((cell_far (p := ⟨gb315, _, none⟩) NB219_315.out _).trans (((cell_far (p := ⟨gb315, _, none⟩) NB219_315.out _).trans (((cell_far (p := ⟨gb315, _, none⟩) NB219_315.out _).trans (((cell_far (p := ⟨gb315, _, none⟩) NB219_315.out _).trans (((cell_far (p := ⟨gb315, _, none⟩) NB219_315.out _).trans (hHeld.2.2.2.1)))))))))))))))), ((cell_far (p := ⟨gb315, _, none⟩) NB219_315.out _).trans (((cell_far (p := ⟨gb315, _, none⟩) NB219_315.out _).trans (((cell_far (p := ⟨gb315, _, none⟩) NB219_315.out _).trans (((cell_far (p := ⟨gb315, _, none⟩) NB219_315.out _).trans (((cell_far (p := ⟨gb315, _, none⟩) NB219_315.out _).trans (((cell_far (p := ⟨gb315, _, none⟩) NB219_315.out _).trans (((cell_far (p := ⟨gb315, _, none⟩) NB219_315.out _).trans (((cell_far (p := ⟨gb315, _, none⟩) NB219_315.out _).trans (hHeld.2.2.2.2.1)))))))))))))))), ((cell_far (p := ⟨gb315, _, none⟩) NB219_315.out _).trans (((cell_far (p := ⟨gb315, _, none⟩) NB219_315.out _).trans (((cell_far (p := ⟨gb315, _, none⟩) NB219_315.out _).trans (((cell_far (p := ⟨gb315, _, none⟩) NB219_315.out _).trans (((cell_far (p := ⟨gb315, _, none⟩) NB219_315.out _).trans (((cell_far (p := ⟨gb315, _, none⟩) NB219_315.out _).trans (((cell_far (p := ⟨gb315, _, none⟩) NB219_315.out _).trans (((cell_far (p := ⟨gb315, _, none⟩) NB219_315.out _).trans (hHeld.2.2.2.2.2.1)))))))))))))))), ((cell_far (p := ⟨gb315, _, none⟩) NB219_315.out _).trans (((cell_far (p := ⟨gb315, _, none⟩) NB219_315.out _).trans (((cell_far (p := ⟨gb315, _, none⟩) NB219_315.out _).trans (((cell_far (p := ⟨gb315, _, none⟩) NB219_315.out _).trans (((cell_far (p := ⟨gb315, _, none⟩) NB219_315.out _).trans (((cell_far (p := ⟨gb315, _, none⟩) NB219_315.out _).trans (((cell_far (p := ⟨gb315, _, none⟩) NB219_315.out _).trans (((cell_far (p := ⟨gb315, _, none⟩) NB219_315.out _).trans (hHeld.2.2.2.2.2.2.1)))))))))))))))), ((cell_far (p := ⟨gb315, _, none⟩) NB219_315.out _).trans (((cell_far (p := ⟨gb315, _, none⟩) NB219_315.out _).trans (((cell_far (p := ⟨gb315, _, none⟩) NB219_315.out _).trans (((cell_far (p := ⟨gb315, _, none⟩) NB219_315.out _).trans (((cell_far (p := ⟨gb315, _, none⟩) NB219_315.out _).trans (((cell_far (p := ⟨gb315, _, none⟩) NB219_315.out _).trans (((cell_far (p := ⟨gb315, _, none⟩) NB219_315.out _).trans (((cell_far (p := ⟨gb315, _, none⟩) NB219_315.out _).trans (hHeld.2.2.2.2.2.2.2.1)))))))))))))))), ((cell_far (p := ⟨gb315, _, none⟩) NB298_315.out _).trans (((cell_far (p := ⟨gb315, _, none⟩) NB298_315.out _).trans (((cell_far (p := ⟨gb315, _, none⟩) NB298_315.out _).trans (((cell_far (p := ⟨gb315, _, none⟩) NB298_315.out _).trans (((cell_far (p := ⟨gb315, _, none⟩) NB298_315.out _).trans (((cell_far (p := ⟨gb315, _, none⟩) NB298_315.out _).trans (((cell_far (p := ⟨gb315, _, none⟩) NB298_315.out _).trans (((cell_far (p := ⟨gb315, _, none⟩) NB298_315.out _).trans (hHeld.2.2.2.2.2.2.2.2.1)))))))))))))))), ((cell_far (p := ⟨gb315, _, none⟩) NB298_315.out _).trans (((cell_far (p := ⟨gb315, _, none⟩) NB298_315.out _).trans (((cell_far (p := ⟨gb315, _, none⟩) NB298_315.out _).trans (((cell_far (p := ⟨gb315, _, none⟩) NB298_315.out _).trans (((cell_far (p := ⟨gb315, _, none⟩) NB298_315.out _).trans (((cell_far (p := ⟨gb315, _, none⟩) NB298_315.out _).trans (((cell_far (p := ⟨gb315, _, none⟩) NB298_315.out _).trans (((cell_far (p := ⟨gb315, _, none⟩) NB298_315.out _).trans (hHeld.2.2.2.2.2.2.2.2.2.1)))))))))))))))), ((cell_far (p := ⟨gb315, _, none⟩) NB298_315.out _).trans (((cell_far (p := ⟨gb315, _, none⟩) NB298_315.out _).trans (((cell_far (p := ⟨gb315, _, none⟩) NB298_315.out _).trans (((cell_far (p := ⟨gb315, _, none⟩) NB298_315.out _).trans (((cell_far (p := ⟨gb315, _, none⟩) NB298_315.out _).trans (((cell_far (p := ⟨gb315, _, none⟩) NB298_315.out _).trans (((cell_far (p := ⟨gb315, _, none⟩) NB298_315.out _).trans (((cell_far (p := ⟨gb315, _, none⟩) NB298_315.out _).trans (hHeld.2.2.2.2.2.2.2.2.2.2.1)))))))))))))))), ((cell_far (p := ⟨gb315, _, none⟩) NB298_315.out _).trans (((cell_far (p := ⟨gb315, _, none⟩) NB298_315.out _).trans (((cell_far (p := ⟨gb315, _, none⟩) NB298_315.out _).trans (((cell_far (p := ⟨gb315, _, none⟩) NB298_315.out _).trans (((cell_far (p := ⟨gb315, _, none⟩) NB298_315.out _).trans (((cell_far (p := ⟨gb315, _, none⟩) NB298_315.out _).trans (((cell_far (p := ⟨gb315, _, none⟩) NB298_315.out _).trans (((cell_far (p := ⟨gb315, _, none⟩) NB298_315.out _).trans (hHeld.2.2.2.2.2.2.2.2.2.2.2.1)))))))))))))))), ((cell_far (p := ⟨gb315, _, none⟩) NB298_315.out _).trans (((cell_far (p := ⟨gb315, _, none⟩) NB298_315.out _).trans (((cell_far (p := ⟨gb315, _, none⟩) NB298_315.out _).trans (((cell_far (p := ⟨gb315, _, none⟩) NB298_315.out _).trans (((cell_far (p := ⟨gb315, _, none⟩) NB298_315.out _).trans (((cell_far (p := ⟨gb315, _, none⟩) NB298_315.out _).trans (((cell_far (p := ⟨gb315, _, none⟩) NB298_315.out _).trans (((cell_far (p := ⟨gb315, _, none⟩) NB298_315.out _).trans (hHeld.2.2.2.2.2.2.2.2.2.2.2.2.1)))))))))))))))), ((cell_far (p := ⟨gb315, _, none⟩) NB298_315.out _).trans (((cell_far (p := ⟨gb315, _, none⟩) NB298_315.out _).trans (((cell_far (p := ⟨gb315, _, none⟩) NB298_315.out _).trans (((cell_far (p := ⟨gb315, _, none⟩) NB298_315.out _).trans (((cell_far (p := ⟨gb315, _, none⟩) NB298_315.out _).trans (((cell_far (p := ⟨gb315, _, none⟩) NB298_315.out _).trans (((cell_far (p := ⟨gb315, _, none⟩) NB298_315.out _).trans (((cell_far (p := ⟨gb315, _, none⟩) NB298_315.out _).trans (hHeld.2.2.2.2.2.2.2.2.2.2.2.2.2.1)))))))))))))))), ((cell_far (p := ⟨gb315, _, none⟩) NB298_315.out _).trans (((cell_far (p := ⟨gb315, _, none⟩) NB298_315.out _).trans (((cell_far (p := ⟨gb315, _, none⟩) NB298_315.out _).trans (((cell_far (p := ⟨gb315, _, none⟩) NB298_315.out _).trans (((cell_far (p := ⟨gb315, _, none⟩) NB298_315.out _).trans (((cell_far (p := ⟨gb315, _, none⟩) NB298_315.out _).trans (((cell_far (p := ⟨gb315, _, none⟩) NB298_315.out _).trans (((cell_far (p := ⟨gb315, _, none⟩) NB298_315.out _).trans (hHeld.2.2.2.2.2.2.2.2.2.2.2.2.2.2.1)))))))))))))))), ((cell_far (p := ⟨gb315, _, none⟩) NB298_315.out _).trans (((cell_far (p := ⟨gb315, _, none⟩) NB298_315.out _).trans (((cell_far (p := ⟨gb315, _, none⟩) NB298_315.out _).trans (((cell_far (p := ⟨gb315, _, none⟩) NB298_315.out _).trans (((cell_far (p := ⟨gb315, _, none⟩) NB298_315.out _).trans (((cell_far (p := ⟨gb315, _, none⟩) NB298_315.out _).trans (((cell_far (p := ⟨gb315, _, none⟩) NB298_315.out _).trans (((cell_far (p := ⟨gb315, _, none⟩) NB298_315.out _).trans (hHeld.2.2.2.2.2.2.2.2.2.2.2.2.2.2.2))))))))))))))))⟩ (fun hHeld => ?_)
        clear hK K
        refine done_ (by kernel_rfl) ?_
        have hnb77 := NB315_197.out
        have hnc77 := NB197_315.out
        have hnb78 := NB315_209.out
        have hnc78 := NB209_315.out
        have hnb79 := NB315_219.out
        have hnc79 := NB219_315.out
        have hnb80 := NB315_298.out
        have hnc80 := NB298_315.out
        have hcz81_0 : w68.cell? ⟨gb315, 0, none⟩ = some (.int .u32 0) := (blk_cell BK315.out 0).trans rfl
        have hcz81_1 : w68.cell? ⟨gb315, 1, none⟩ = some (.int .u32 0) := (blk_cell BK315.out 1).trans rfl
        have hcz81_2 : w68.cell? ⟨gb315, 2, none⟩ = some (.int .u32 0) := (blk_cell BK315.out 2).trans rfl
        have hcz81_3 : w68.cell? ⟨gb315, 3, none⟩ = some (.int .u32 0) := (blk_cell BK315.out 3).trans rfl
        have hcz81_4 : w68.cell? ⟨gb315, 4, none⟩ = some (.int .u32 0) := (blk_cell BK315.out 4).trans rfl
        have hcz81_5 : w68.cell? ⟨gb315, 5, none⟩ = some (.int .u32 0) := (blk_cell BK315.out 5).trans rfl
        have hcz81_6 : w68.cell? ⟨gb315, 6, none⟩ = some (.int .u32 0) := (blk_cell BK315.out 6).trans rfl
        have hcz81_7 : w68.cell? ⟨gb315, 7, none⟩ = some (.int .u32 0) := (blk_cell BK315.out 7).trans rfl
        have hfz81_0 := blk_frozen BK315.out 0
        have hfz81_1 := blk_frozen BK315.out 1
        have hfz81_2 := blk_frozen BK315.out 2
        have hfz81_3 := blk_frozen BK315.out 3
        have hfz81_4 := blk_frozen BK315.out 4
        have hfz81_5 := blk_frozen BK315.out 5
        have hfz81_6 := blk_frozen BK315.out 6
        have hfz81_7 := blk_frozen BK315.out 7
        try go_wp2_with (first | ((with_reducible refine gate_callee (f := 15) rfl ?_); refine goesL_ (some 113) rfl rfl Try.func15 (by kernel_rfl) rfl #[.agg #[.int .u32 t307, .int .u32 t308, .int .u32 t309, .int .u32 t310, .int .u32 t311, .int .u32 t312, .int .u32 t313, .int .u32 t314]] rfl (by (try simp only [List.map_toArray, List.map_cons, List.map_nil]); first | done | rfl | (simp only [List.length_drop, List.length_take]; rfl)) ?_; (with_reducible refine (offertoryref09_Signed.calls t307 t308 t309 t310 t311 t312 t313 t314 t316 t317 t318 t319 t320 t321 t322 t323 false _ A43.out).mono ?_); rintro e w82 ⟨rfl, hb⟩; refine ⟨_, rfl, ?_⟩; have n0_ := Aside0.mk (blk_below (g := gb197) (o := .cells #[.slice A0_0 l0_0.length c0_0, .int .i64 a0_1, .int .u64 a0_2, .int .u64 a0_3, .int .u64 a0_4, .int .u64 a0_5, .bool a0_6] 36 (0, 0)) (by (repeat (first | (with_reducible first | refine blk_drewN ?_ _ | refine blk_drew ?_ | refine blk_alloc ?_ _) | refine blk_far ?_ NB197_315.out _)); (with_reducible repeat (first | refine blk_drewN ?_ _ | refine blk_drew ?_ | refine blk_alloc ?_ _)); exact BK197.out) hb); have n1_ := Aside0.mk (blk_below (g := gb209) (o := .cells #[.int .u32 t201, .int .u32 t202, .int .u32 t203, .int .u32 t204, .int .u32 t205, .int .u32 t206, .int .u32 t207, .int .u32 t208] 41 (0, 0)) (by (repeat (first | (with_reducible first | refine blk_drewN ?_ _ | refine blk_drew ?_ | refine blk_alloc ?_ _) | refine blk_far ?_ NB209_315.out _)); (with_reducible repeat (first | refine blk_drewN ?_ _ | refine blk_drew ?_ | refine blk_alloc ?_ _)); exact BK209.out) hb); have n2_ := Aside0.mk (blk_below (g := gb219) (o := .cells #[.int .u32 x220000_14, .int .u32 x220001_14, .int .u32 x220002_14, .int .u32 x220003_14, .int .u32 x220004_14, .int .u32 x220005_14, .int .u32 x220006_14, .int .u32 x220007_14] 41 (0, 0)) (by (repeat (first | (with_reducible first | refine blk_drewN ?_ _ | refine blk_drew ?_ | refine blk_alloc ?_ _) | refine blk_far ?_ NB219_315.out _)); (with_reducible repeat (first | refine blk_drewN ?_ _ | refine blk_drew ?_ | refine blk_alloc ?_ _)); exact BK219.out) hb); have n3_ := Aside0.mk (blk_below (g := gb298) (o := .cells #[.int .u32 t290, .int .u32 t291, .int .u32 t292, .int .u32 t293, .int .u32 t294, .int .u32 t295, .int .u32 t296, .int .u32 t297] 41 (0, 0)) (by (repeat (first | (with_reducible first | refine blk_drewN ?_ _ | refine blk_drew ?_ | refine blk_alloc ?_ _) | refine blk_far ?_ NB298_315.out _)); (with_reducible repeat (first | refine blk_drewN ?_ _ | refine blk_drew ?_ | refine blk_alloc ?_ _)); exact BK298.out) hb); have n4_ := Aside0.mk (blk_below (g := gb315) (o := .cells #[.int .u32 t307, .int .u32 t308, .int .u32 t309, .int .u32 t310, .int .u32 t311, .int .u32 t312, .int .u32 t313, .int .u32 t314] 41 (0, 0)) (by (with_reducible repeat (first | refine blk_drewN ?_ _ | refine blk_drew ?_ | refine blk_alloc ?_ _)); refine blk_put (cs := #[.int .u32 t307, .int .u32 t308, .int .u32 t309, .int .u32 t310, .int .u32 t311, .int .u32 t312, .int .u32 t313, .int .u32 0]) ?_ 7 _ rfl; (with_reducible repeat (first | refine blk_drewN ?_ _ | refine blk_drew ?_ | refine blk_alloc ?_ _)); refine blk_put (cs := #[.int .u32 t307, .int .u32 t308, .int .u32 t309, .int .u32 t310, .int .u32 t311, .int .u32 t312, .int .u32 0, .int .u32 0]) ?_ 6 _ rfl; (with_reducible repeat (first | refine blk_drewN ?_ _ | refine blk_drew ?_ | refine blk_alloc ?_ _)); refine blk_put (cs := #[.int .u32 t307, .int .u32 t308, .int .u32 t309, .int .u32 t310, .int .u32 t311, .int .u32 0, .int .u32 0, .int .u32 0]) ?_ 5 _ rfl; (with_reducible repeat (first | refine blk_drewN ?_ _ | refine blk_drew ?_ | refine blk_alloc ?_ _)); refine blk_put (cs := #[.int .u32 t307, .int .u32 t308, .int .u32 t309, .int .u32 t310, .int .u32 0, .int .u32 0, .int .u32 0, .int .u32 0]) ?_ 4 _ rfl; (with_reducible repeat (first | refine blk_drewN ?_ _ | refine blk_drew ?_ | refine blk_alloc ?_ _)); refine blk_put (cs := #[.int .u32 t307, .int .u32 t308, .int .u32 t309, .int .u32 0, .int .u32 0, .int .u32 0, .int .u32 0, .int .u32 0]) ?_ 3 _ rfl; (with_reducible repeat (first | refine blk_drewN ?_ _ | refine blk_drew ?_ | refine blk_alloc ?_ _)); refine blk_put (cs := #[.int .u32 t307, .int .u32 t308, .int .u32 0, .int .u32 0, .int .u32 0, .int .u32 0, .int .u32 0, .int .u32 0]) ?_ 2 _ rfl; (with_reducible repeat (first | refine blk_drewN ?_ _ | refine blk_drew ?_ | refine blk_alloc ?_ _)); refine blk_put (cs := #[.int .u32 t307, .int .u32 0, .int .u32 0, .int .u32 0, .int .u32 0, .int .u32 0, .int .u32 0, .int .u32 0]) ?_ 1 _ rfl; (with_reducible repeat (first | refine blk_drewN ?_ _ | refine blk_drew ?_ | refine blk_alloc ?_ _)); refine blk_put (cs := #[.int .u32 0, .int .u32 0, .int .u32 0, .int .u32 0, .int .u32 0, .int .u32 0, .int .u32 0, .int .u32 0]) ?_ 0 _ rfl; (with_reducible repeat (first | refine blk_drewN ?_ _ | refine blk_drew ?_ | refine blk_alloc ?_ _)); exact BK315.out) hb); have n5_ := Aside0.mk (below_step (by repeat (first | (with_reducible first | exact HB.out | apply below_alloc | apply pw_below_drewN | apply below_drew1 | refine below_set ?_ GE197.out | refine below_set ?_ GE209.out | refine below_set ?_ GE219.out | refine below_set ?_ GE298.out | refine below_set ?_ GE315.out) | exact HB.out)) hb); clear BK197; clear BK209; clear BK219; clear BK298; clear BK315; clear HB; have BK197 := n0_; have BK209 := n1_; have BK219 := n2_; have BK298 := n3_; have BK315 := n4_; have HB := n5_; clear n0_ n1_ n2_ n3_ n4_ n5_; (try clear hb); (try clear hb2); (try clear hk); (try clear hi)) | ((with_reducible refine gate_dst (N := 14) rfl ?_); refine box_event ?hg (N := 14) ?hd (cs := #[.int .u32 0, .int .u32 0, .int .u32 0, .int .u32 0, .int .u32 0, .int .u32 0, .int .u32 0, .int .u32 0]) (t := 41) ?hr ?_; (case hd => rfl); (case hg => rfl); (case hr => first | (go_simp; done) | (go_simp; rfl)); intro gb325 hg w83 hbox hb; have n0_ := law4A.keepB BK197 hb; have n1_ := law4A.keepB BK209 hb; have n2_ := law4A.keepB BK219 hb; have n3_ := law4A.keepB BK298 hb; have n4_ := law4A.keepB BK315 hb; have n5_ := Aside0.mk (below_step (by repeat (first | (with_reducible first | exact HB.out | apply below_alloc | apply pw_below_drewN | apply below_drew1 | refine below_set ?_ GE197.out | refine below_set ?_ GE209.out | refine below_set ?_ GE219.out | refine below_set ?_ GE298.out | refine below_set ?_ GE315.out) | exact HB.out)) hb); have n6_ := Aside0.mk (hbox); have n7_ := Aside0.mk ((by rw [hg]; exact (below_size (by repeat (first | (with_reducible first | exact HB.out | apply below_alloc | apply pw_below_drewN | apply below_drew1 | refine below_set ?_ GE197.out | refine below_set ?_ GE209.out | refine below_set ?_ GE219.out | refine below_set ?_ GE298.out | refine below_set ?_ GE315.out) | exact HB.out))) : w.heap.size ≤ gb325)); have n8_ := Aside0.mk ((by rw [hg]; exact (below_size (by repeat (first | (with_reducible first | exact HB.out | apply below_alloc | apply pw_below_drewN | apply below_drew1 | refine below_set ?_ GE197.out | refine below_set ?_ GE209.out | refine below_set ?_ GE219.out | refine below_set ?_ GE298.out | refine below_set ?_ GE315.out) | exact HB.out))) : w.heap.size ≤ gb325)); have n9_ := law4A.neL BK197 hg; have n10_ := law4A.neG BK197 hg; have n11_ := law4A.neL BK209 hg; have n12_ := law4A.neG BK209 hg; have n13_ := law4A.neL BK219 hg; have n14_ := law4A.neG BK219 hg; have n15_ := law4A.neL BK298 hg; have n16_ := law4A.neG BK298 hg; have n17_ := law4A.neL BK315 hg; have n18_ := law4A.neG BK315 hg; clear BK197; clear BK209; clear BK219; clear BK298; clear BK315; clear HB; have BK197 := n0_; have BK209 := n1_; have BK219 := n2_; have BK298 := n3_; have BK315 := n4_; have HB := n5_; have BK325 := n6_; have GW325 := n7_; have GE325 := n8_; have NB197_325 := n9_; have NB325_197 := n10_; have NB209_325 := n11_; have NB325_209 := n12_; have NB219_325 := n13_; have NB325_219 := n14_; have NB298_325 := n15_; have NB325_298 := n16_; have NB315_325 := n17_; have NB325_315 := n18_; clear n0_ n1_ n2_ n3_ n4_ n5_ n6_ n7_ n8_ n9_ n10_ n11_ n12_ n13_ n14_ n15_ n16_ n17_ n18_; clear hb hbox hg; have hnb84 := NB325_197.out; have hnc84 := NB197_325.out; have hnb85 := NB325_209.out; have hnc85 := NB209_325.out; have hnb86 := NB325_219.out; have hnc86 := NB219_325.out; have hnb87 := NB325_298.out; have hnc87 := NB298_325.out; have hnb88 := NB325_315.out; have hnc88 := NB315_325.out; have hcz89_0 : w83.cell? ⟨gb325, 0, none⟩ = some (.int .u32 0) := (blk_cell BK325.out 0).trans rfl; have hcz89_1 : w83.cell? ⟨gb325, 1, none⟩ = some (.int .u32 0) := (blk_cell BK325.out 1).trans rfl; have hcz89_2 : w83.cell? ⟨gb325, 2, none⟩ = some (.int .u32 0) := (blk_cell BK325.out 2).trans rfl; have hcz89_3 : w83.cell? ⟨gb325, 3, none⟩ = some (.int .u32 0) := (blk_cell BK325.out 3).trans rfl; have hcz89_4 : w83.cell? ⟨gb325, 4, none⟩ = some (.int .u32 0) := (blk_cell BK325.out 4).trans rfl; have hcz89_5 : w83.cell? ⟨gb325, 5, none⟩ = some (.int .u32 0) := (blk_cell BK325.out 5).trans rfl; have hcz89_6 : w83.cell? ⟨gb325, 6, none⟩ = some (.int .u32 0) := (blk_cell BK325.out 6).trans rfl; have hcz89_7 : w83.cell? ⟨gb325, 7, none⟩ = some (.int .u32 0) := (blk_cell BK325.out 7).trans rfl; have hfz89_0 := blk_frozen BK325.out 0; have hfz89_1 := blk_frozen BK325.out 1; have hfz89_2 := blk_frozen BK325.out 2; have hfz89_3 := blk_frozen BK325.out 3; have hfz89_4 := blk_frozen BK325.out 4; have hfz89_5 := blk_frozen BK325.out 5; have hfz89_6 := blk_frozen BK325.out 6; have hfz89_7 := blk_frozen BK325.out 7))
        have n0_ : Aside0 (((((((((w83.setCell ⟨gb325, 0, none⟩ (.int .u32 t316)).setCell ⟨gb325, 1, none⟩ (.int .u32 t317)).setCell ⟨gb325, 2, none⟩ (.int .u32 t318)).setCell ⟨gb325, 3, none⟩ (.int .u32 t319)).setCell ⟨gb325, 4, none⟩ (.int .u32 t320)).setCell ⟨gb325, 5, none⟩ (.int .u32 t321)).setCell ⟨gb325, 6, none⟩ (.int .u32 t322)).setCell ⟨gb325, 7, none⟩ (.int .u32 t323)).heap[gb197]? = some (.cells #[.slice A0_0 l0_0.length c0_0, .int .i64 a0_1, .int .u64 a0_2, .int .u64 a0_3, .int .u64 a0_4, .int .u64 a0_5, .bool a0_6] 36 (0, 0))) := ⟨by (repeat (first | (with_reducible first | refine blk_drewN ?_ _ | refine blk_drew ?_ | refine blk_alloc ?_ _) | refine blk_far ?_ NB197_325.out _)); (with_reducible repeat (first | refine blk_drewN ?_ _ | refine blk_drew ?_ | refine blk_alloc ?_ _)); exact BK197.out⟩
        have n1_ : Aside0 (((((((((w83.setCell ⟨gb325, 0, none⟩ (.int .u32 t316)).setCell ⟨gb325, 1, none⟩ (.int .u32 t317)).setCell ⟨gb325, 2, none⟩ (.int .u32 t318)).setCell ⟨gb325, 3, none⟩ (.int .u32 t319)).setCell ⟨gb325, 4, none⟩ (.int .u32 t320)).setCell ⟨gb325, 5, none⟩ (.int .u32 t321)).setCell ⟨gb325, 6, none⟩ (.int .u32 t322)).setCell ⟨gb325, 7, none⟩ (.int .u32 t323)).heap[gb209]? = some (.cells #[.int .u32 t201, .int .u32 t202, .int .u32 t203, .int .u32 t204, .int .u32 t205, .int .u32 t206, .int .u32 t207, .int .u32 t208] 41 (0, 0))) := ⟨by (repeat (first | (with_reducible first | refine blk_drewN ?_ _ | refine blk_drew ?_ | refine blk_alloc ?_ _) | refine blk_far ?_ NB209_325.out _)); (with_reducible repeat (first | refine blk_drewN ?_ _ | refine blk_drew ?_ | refine blk_alloc ?_ _)); exact BK209.out⟩
        have n2_ : Aside0 (((((((((w83.setCell ⟨gb325, 0, none⟩ (.int .u32 t316)).setCell ⟨gb325, 1, none⟩ (.int .u32 t317)).setCell ⟨gb325, 2, none⟩ (.int .u32 t318)).setCell ⟨gb325, 3, none⟩ (.int .u32 t319)).setCell ⟨gb325, 4, none⟩ (.int .u32 t320)).setCell ⟨gb325, 5, none⟩ (.int .u32 t321)).setCell ⟨gb325, 6, none⟩ (.int .u32 t322)).setCell ⟨gb325, 7, none⟩ (.int .u32 t323)).heap[gb219]? = some (.cells #[.int .u32 x220000_14, .int .u32 x220001_14, .int .u32 x220002_14, .int .u32 x220003_14, .int .u32 x220004_14, .int .u32 x220005_14, .int .u32 x220006_14, .int .u32 x220007_14] 41 (0, 0))) := ⟨by (repeat (first | (with_reducible first | refine blk_drewN ?_ _ | refine blk_drew ?_ | refine blk_alloc ?_ _) | refine blk_far ?_ NB219_325.out _)); (with_reducible repeat (first | refine blk_drewN ?_ _ | refine blk_drew ?_ | refine blk_alloc ?_ _)); exact BK219.out⟩
        have n3_ : Aside0 (((((((((w83.setCell ⟨gb325, 0, none⟩ (.int .u32 t316)).setCell ⟨gb325, 1, none⟩ (.int .u32 t317)).setCell ⟨gb325, 2, none⟩ (.int .u32 t318)).setCell ⟨gb325, 3, none⟩ (.int .u32 t319)).setCell ⟨gb325, 4, none⟩ (.int .u32 t320)).setCell ⟨gb325, 5, none⟩ (.int .u32 t321)).setCell ⟨gb325, 6, none⟩ (.int .u32 t322)).setCell ⟨gb325, 7, none⟩ (.int .u32 t323)).heap[gb298]? = some (.cells #[.int .u32 t290, .int .u32 t291, .int .u32 t292, .int .u32 t293, .int .u32 t294, .int .u32 t295, .int .u32 t296, .int .u32 t297] 41 (0, 0))) := ⟨by (repeat (first | (with_reducible first | refine blk_drewN ?_ _ | refine blk_drew ?_ | refine blk_alloc ?_ _) | refine blk_far ?_ NB298_325.out _)); (with_reducible repeat (first | refine blk_drewN ?_ _ | refine blk_drew ?_ | refine blk_alloc ?_ _)); exact BK298.out⟩
        have n4_ : Aside0 (((((((((w83.setCell ⟨gb325, 0, none⟩ (.int .u32 t316)).setCell ⟨gb325, 1, none⟩ (.int .u32 t317)).setCell ⟨gb325, 2, none⟩ (.int .u32 t318)).setCell ⟨gb325, 3, none⟩ (.int .u32 t319)).setCell ⟨gb325, 4, none⟩ (.int .u32 t320)).setCell ⟨gb325, 5, none⟩ (.int .u32 t321)).setCell ⟨gb325, 6, none⟩ (.int .u32 t322)).setCell ⟨gb325, 7, none⟩ (.int .u32 t323)).heap[gb315]? = some (.cells #[.int .u32 t307, .int .u32 t308, .int .u32 t309, .int .u32 t310, .int .u32 t311, .int .u32 t312, .int .u32 t313, .int .u32 t314] 41 (0, 0))) := ⟨by (repeat (first | (with_reducible first | refine blk_drewN ?_ _ | refine blk_drew ?_ | refine blk_alloc ?_ _) | refine blk_far ?_ NB315_325.out _)); (with_reducible repeat (first | refine blk_drewN ?_ _ | refine blk_drew ?_ | refine blk_alloc ?_ _)); exact BK315.out⟩
        have n5_ : Aside0 (((((((((w83.setCell ⟨gb325, 0, none⟩ (.int .u32 t316)).setCell ⟨gb325, 1, none⟩ (.int .u32 t317)).setCell ⟨gb325, 2, none⟩ (.int .u32 t318)).setCell ⟨gb325, 3, none⟩ (.int .u32 t319)).setCell ⟨gb325, 4, none⟩ (.int .u32 t320)).setCell ⟨gb325, 5, none⟩ (.int .u32 t321)).setCell ⟨gb325, 6, none⟩ (.int .u32 t322)).setCell ⟨gb325, 7, none⟩ (.int .u32 t323)).heap[gb325]? = some (.cells #[.int .u32 t316, .int .u32 t317, .int .u32 t318, .int .u32 t319, .int .u32 t320, .int .u32 t321, .int .u32 t322, .int .u32 t323] 41 (0, 0))) := ⟨by (with_reducible repeat (first | refine blk_drewN ?_ _ | refine blk_drew ?_ | refine blk_alloc ?_ _)); refine blk_put (cs := #[.int .u32 t316, .int .u32 t317, .int .u32 t318, .int .u32 t319, .int .u32 t320, .int .u32 t321, .int .u32 t322, .int .u32 0]) ?_ 7 _ rfl; (with_reducible repeat (first | refine blk_drewN ?_ _ | refine blk_drew ?_ | refine blk_alloc ?_ _)); refine blk_put (cs := #[.int .u32 t316, .int .u32 t317, .int .u32 t318, .int .u32 t319, .int .u32 t320, .int .u32 t321, .int .u32 0, .int .u32 0]) ?_ 6 _ rfl; (with_reducible repeat (first | refine blk_drewN ?_ _ | refine blk_drew ?_ | refine blk_alloc ?_ _)); refine blk_put (cs := #[.int .u32 t316, .int .u32 t317, .int .u32 t318, .int .u32 t319, .int .u32 t320, .int .u32 0, .int .u32 0, .int .u32 0]) ?_ 5 _ rfl; (with_reducible repeat (first | refine blk_drewN ?_ _ | refine blk_drew ?_ | refine blk_alloc ?_ _)); refine blk_put (cs := #[.int .u32 t316, .int .u32 t317, .int .u32 t318, .int .u32 t319, .int .u32 0, .int .u32 0, .int .u32 0, .int .u32 0]) ?_ 4 _ rfl; (with_reducible repeat (first | refine blk_drewN ?_ _ | refine blk_drew ?_ | refine blk_alloc ?_ _)); refine blk_put (cs := #[.int .u32 t316, .int .u32 t317, .int .u32 t318, .int .u32 0, .int .u32 0, .int .u32 0, .int .u32 0, .int .u32 0]) ?_ 3 _ rfl; (with_reducible repeat (first | refine blk_drewN ?_ _ | refine blk_drew ?_ | refine blk_alloc ?_ _)); refine blk_put (cs := #[.int .u32 t316, .int .u32 t317, .int .u32 0, .int .u32 0, .int .u32 0, .int .u32 0, .int .u32 0, .int .u32 0]) ?_ 2 _ rfl; (with_reducible repeat (first | refine blk_drewN ?_ _ | refine blk_drew ?_ | refine blk_alloc ?_ _)); refine blk_put (cs := #[.int .u32 t316, .int .u32 0, .int .u32 0, .int .u32 0, .int .u32 0, .int .u32 0, .int .u32 0, .int .u32 0]) ?_ 1 _ rfl; (with_reducible repeat (first | refine blk_drewN ?_ _ | refine blk_drew ?_ | refine blk_alloc ?_ _)); refine blk_put (cs := #[.int .u32 0, .int .u32 0, .int .u32 0, .int .u32 0, .int .u32 0, .int .u32 0, .int .u32 0, .int .u32 0]) ?_ 0 _ rfl; (with_reducible repeat (first | refine blk_drewN ?_ _ | refine blk_drew ?_ | refine blk_alloc ?_ _)); exact BK325.out⟩
        have n6_ : Aside0 (Below w.heap.size w ((((((((w83.setCell ⟨gb325, 0, none⟩ (.int .u32 t316)).setCell ⟨gb325, 1, none⟩ (.int .u32 t317)).setCell ⟨gb325, 2, none⟩ (.int .u32 t318)).setCell ⟨gb325, 3, none⟩ (.int .u32 t319)).setCell ⟨gb325, 4, none⟩ (.int .u32 t320)).setCell ⟨gb325, 5, none⟩ (.int .u32 t321)).setCell ⟨gb325, 6, none⟩ (.int .u32 t322)).setCell ⟨gb325, 7, none⟩ (.int .u32 t323))) := ⟨by repeat (first | (with_reducible first | exact HB.out | apply below_alloc | apply pw_below_drewN | apply below_drew1 | refine below_set ?_ GE197.out | refine below_set ?_ GE209.out | refine below_set ?_ GE219.out | refine below_set ?_ GE298.out | refine below_set ?_ GE315.out | refine below_set ?_ GE325.out) | exact HB.out)⟩
        (try clear BK197)
        (try clear BK209)
        (try clear BK219)
        (try clear BK298)
        (try clear BK315)
        (try clear BK325)
        (try clear HB)
        generalize ((((((((w83.setCell ⟨gb325, 0, none⟩ (.int .u32 t316)).setCell ⟨gb325, 1, none⟩ (.int .u32 t317)).setCell ⟨gb325, 2, none⟩ (.int .u32 t318)).setCell ⟨gb325, 3, none⟩ (.int .u32 t319)).setCell ⟨gb325, 4, none⟩ (.int .u32 t320)).setCell ⟨gb325, 5, none⟩ (.int .u32 t321)).setCell ⟨gb325, 6, none⟩ (.int .u32 t322)).setCell ⟨gb325, 7, none⟩ (.int .u32 t323)) = w90 at n0_ n1_ n2_ n3_ n4_ n5_ n6_ ⊢
        have BK197 := n0_
        have BK209 := n1_
        have BK219 := n2_
        have BK298 := n3_
        have BK315 := n4_
        have BK325 := n5_
        have HB := n6_
        clear n0_ n1_ n2_ n3_ n4_ n5_ n6_
        have n0_ := Aside0.mk (blk_drew BK197.out)
        have n1_ := Aside0.mk (blk_drew BK209.out)
        have n2_ := Aside0.mk (blk_drew BK219.out)
        have n3_ := Aside0.mk (blk_drew BK298.out)
        have n4_ := Aside0.mk (blk_drew BK315.out)
        have n5_ := Aside0.mk (blk_drew BK325.out)
        have n6_ := Aside0.mk (below_drew1 HB.out)
        clear BK197
        clear BK209
        clear BK219
        clear BK298
        clear BK315
        clear BK325
        clear HB
        have BK197 := n0_
        have BK209 := n1_
        have BK219 := n2_
        have BK298 := n3_
        have BK315 := n4_
        have BK325 := n5_
        have HB := n6_
        clear n0_ n1_ n2_ n3_ n4_ n5_ n6_
        refine start_ (n := 11) (S := fun w' => w'.cell? ⟨gb315, 0, none⟩ = some (.int .u32 t307) ∧ w'.cell? ⟨gb315, 1, none⟩ = some (.int .u32 t308) ∧ w'.cell? ⟨gb315, 2, none⟩ = some (.int .u32 t309) ∧ w'.cell? ⟨gb315, 3, none⟩ = some (.int .u32 t310) ∧ w'.cell? ⟨gb315, 4, none⟩ = some (.int .u32 t311) ∧ w'.cell? ⟨gb315, 5, none⟩ = some (.int .u32 t312) ∧ w'.cell? ⟨gb315, 6, none⟩ = some (.int .u32 t313) ∧ w'.cell? ⟨gb315, 7, none⟩ = some (.int .u32 t314) ∧ w'.cell? ⟨gb209, 0, none⟩ = some (.int .u32 t201) ∧ w'.cell? ⟨gb209, 1, none⟩ = some (.int .u32 t202) ∧ w'.cell? ⟨gb209, 2, none⟩ = some (.int .u32 t203) ∧ w'.cell? ⟨gb209, 3, none⟩ = some (.int .u32 t204) ∧ w'.cell? ⟨gb209, 4, none⟩ = some (.int .u32 t205) ∧ w'.cell? ⟨gb209, 5, none⟩ = some (.int .u32 t206) ∧ w'.cell? ⟨gb209, 6, none⟩ = some (.int .u32 t207) ∧ w'.cell? ⟨gb209, 7, none⟩ = some (.int .u32 t208)) (ds := []) #[F, F, F, F, F, F, F, F, F, F, F] (by kernel_rfl) rfl rfl ⟨(blk_cell BK315.out 0).trans rfl, (blk_cell BK315.out 1).trans rfl, (blk_cell BK315.out 2).trans rfl, (blk_cell BK315.out 3).trans rfl, (blk_cell BK315.out 4).trans rfl, (blk_cell BK315.out 5).trans rfl, (blk_cell BK315.out 6).trans rfl, (blk_cell BK315.out 7).trans rfl, (blk_cell BK209.out 0).trans rfl, (blk_cell BK209.out 1).trans rfl, (blk_cell BK209.out 2).trans rfl, (blk_cell BK209.out 3).trans rfl, (blk_cell BK209.out 4).trans rfl, (blk_cell BK209.out 5).trans rfl, (blk_cell BK209.out 6).trans rfl, (blk_cell BK209.out 7).trans rfl⟩ (fun hHeld => ?_); refine with_tabW law4A.tab18 law4A.bits18 (fun HT_ HW_ => ?_)
        generalize w90.drew = w91 at BK197 BK209 BK219 BK298 BK315 BK325 HB hHeld ⊢
        refine take_ (i := 0) (N := some 117) (v := ?_) (a' := ?_) #[T, F, F, F, F, F, F, F, F, F, F] rfl rfl (take_ofW HT_.out HW_.out (by kernel_rfl)) (fun _ _ _ h => h) (Or.inl ⟨by rfl, ?_⟩) hHeld ?_ ?_
        rotate_left
        ·
         rintro w' ⟨s0, s1, s2, s3, s4, s5, s6, s7, s8, s9, s10, s11, s12, s13, s14, s15⟩
         (try simp only [add_plain] at s0 s1 s2 s3 s4 s5 s6 s7 s8 s9 s10 s11 s12 s13 s14 s15)
         go_simp
         with_reducible rfl
        rotate_left
        ·
         simp only [Act.put, List.setIfInBounds_toArray, List.set_cons_zero, List.set_cons_succ, i64_w, i32_w]
         rfl
        refine take_ (i := 1) (N := some 118) (v := ?_) (a' := ?_) #[T, T, F, F, F, F, F, F, F, F, F] rfl rfl (take_ofW HT_.out HW_.out (by kernel_rfl)) (fun _ _ _ h => h) (Or.inl ⟨by rfl, ?_⟩) hHeld ?_ ?_
        rotate_left
        ·
         rintro w' ⟨s0, s1, s2, s3, s4, s5, s6, s7, s8, s9, s10, s11, s12, s13, s14, s15⟩
         (try simp only [add_plain] at s0 s1 s2 s3 s4 s5 s6 s7 s8 s9 s10 s11 s12 s13 s14 s15)
         go_simp
         with_reducible rfl
        rotate_left
        ·
         simp only [Act.put, List.setIfInBounds_toArray, List.set_cons_zero, List.set_cons_succ, i64_w, i32_w]
         rfl
        refine join_ (σ := Nat) 2 #[T, T, T, T, T, T, T, T, T, F, F] (fun s_ => [(119, .agg #[.int .u32 t326, .int .u32 t327, .int .u32 t328, .int .u32 t329, .int .u32 t330, .int .u32 t331, .int .u32 t332, .int .u32 t333]), (120, .agg #[.int .u32 t334, .int .u32 t335, .int .u32 t336, .int .u32 t337, .int .u32 t338, .int .u32 t339, .int .u32 t340, .int .u32 t341]), (121, .tuple #[.agg #[.int .u32 t342, .int .u32 t343, .int .u32 t344, .int .u32 t345, .int .u32 t346, .int .u32 t347, .int .u32 t348, .int .u32 t349], .bool t350]), (16, .pointer (some ⟨s_, 0, none⟩)), (116, .tuple #[.agg #[.int .u32 t342, .int .u32 t343, .int .u32 t344, .int .u32 t345, .int .u32 t346, .int .u32 t347, .int .u32 t348, .int .u32 t349], .bool t350]), (122, .agg #[.int .u32 t342, .int .u32 t343, .int .u32 t344, .int .u32 t345, .int .u32 t346, .int .u32 t347, .int .u32 t348, .int .u32 t349]), (123, .bool t350)]) (fun s_ w' => (w'.cell? ⟨gb315, 0, none⟩ = some (.int .u32 t307) ∧ w'.cell? ⟨gb315, 1, none⟩ = some (.int .u32 t308) ∧ w'.cell? ⟨gb315, 2, none⟩ = some (.int .u32 t309) ∧ w'.cell? ⟨gb315, 3, none⟩ = some (.int .u32 t310) ∧ w'.cell? ⟨gb315, 4, none⟩ = some (.int .u32 t311) ∧ w'.cell? ⟨gb315, 5, none⟩ = some (.int .u32 t312) ∧ w'.cell? ⟨gb315, 6, none⟩ = some (.int .u32 t313) ∧ w'.cell? ⟨gb315, 7, none⟩ = some (.int .u32 t314) ∧ w'.cell? ⟨gb209, 0, none⟩ = some (.int .u32 t201) ∧ w'.cell? ⟨gb209, 1, none⟩ = some (.int .u32 t202) ∧ w'.cell? ⟨gb209, 2, none⟩ = some (.int .u32 t203) ∧ w'.cell? ⟨gb209, 3, none⟩ = some (.int .u32 t204) ∧ w'.cell? ⟨gb209, 4, none⟩ = some (.int .u32 t205) ∧ w'.cell? ⟨gb209, 5, none⟩ = some (.int .u32 t206) ∧ w'.cell? ⟨gb209, 6, none⟩ = some (.int .u32 t207) ∧ w'.cell? ⟨gb209, 7, none⟩ = some (.int .u32 t208)) ∧ (w'.heap[gb197]? = some (.cells #[.slice A0_0 l0_0.length c0_0, .int .i64 a0_1, .int .u64 a0_2, .int .u64 a0_3, .int .u64 a0_4, .int .u64 a0_5, .bool a0_6] 36 (0, 0))) ∧ (w'.heap[gb209]? = some (.cells #[.int .u32 t201, .int .u32 t202, .int .u32 t203, .int .u32 t204, .int .u32 t205, .int .u32 t206, .int .u32 t207, .int .u32 t208] 41 (0, 0))) ∧ (w'.heap[gb219]? = some (.cells #[.int .u32 x220000_14, .int .u32 x220001_14, .int .u32 x220002_14, .int .u32 x220003_14, .int .u32 x220004_14, .int .u32 x220005_14, .int .u32 x220006_14, .int .u32 x220007_14] 41 (0, 0))) ∧ (w'.heap[gb298]? = some (.cells #[.int .u32 t290, .int .u32 t291, .int .u32 t292, .int .u32 t293, .int .u32 t294, .int .u32 t295, .int .u32 t296, .int .u32 t297] 41 (0, 0))) ∧ (w'.heap[gb315]? = some (.cells #[.int .u32 t307, .int .u32 t308, .int .u32 t309, .int .u32 t310, .int .u32 t311, .int .u32 t312, .int .u32 t313, .int .u32 t314] 41 (0, 0))) ∧ (w'.heap[gb325]? = some (.cells #[.int .u32 t316, .int .u32 t317, .int .u32 t318, .int .u32 t319, .int .u32 t320, .int .u32 t321, .int .u32 t322, .int .u32 t323] 41 (0, 0))) ∧ (w'.heap[s_]? = some (.cells #[.int .u32 0, .int .u32 0, .int .u32 0, .int .u32 0, .int .u32 0, .int .u32 0, .int .u32 0, .int .u32 0] 41 (0, 0))) ∧ (w.heap.size ≤ s_) ∧ (w.heap.size ≤ s_) ∧ (gb197 ≠ s_) ∧ (s_ ≠ gb197) ∧ (gb209 ≠ s_) ∧ (s_ ≠ gb209) ∧ (gb219 ≠ s_) ∧ (s_ ≠ gb219) ∧ (gb298 ≠ s_) ∧ (s_ ≠ gb298) ∧ (gb315 ≠ s_) ∧ (s_ ≠ gb315) ∧ (gb325 ≠ s_) ∧ (s_ ≠ gb325) ∧ (Below w.heap.size w w')) ?_ ?_
        rotate_left
        ·
         intro hCont
         refine two_ (i := 2) (j := 8) (Ni := some 119) (Nj := some 16) #[T, T, T, F, F, F, F, F, F, F, F] #[T, T, F, F, F, F, F, F, T, F, F] rfl rfl rfl rfl (two_of HT_.out (by kernel_rfl)) (by decide) (by decide) (fun K hK => ?_) (fun K hK => ?_)
         ·
          skip
          refine goes_ Try.func13 (by kernel_rfl) rfl #[.agg #[.int .u32 t201, .int .u32 t202, .int .u32 t203, .int .u32 t204, .int .u32 t205, .int .u32 t206, .int .u32 t207, .int .u32 t208]] (by rfl) rfl rfl (by (try simp only [List.map_toArray, List.map_cons, List.map_nil]); first | done | rfl | (simp only [List.length_drop, List.length_take]; rfl)) ?_
          with_reducible refine (offertoryref09_Neg.calls t201 t202 t203 t204 t205 t206 t207 t208 t326 t327 t328 t329 t330 t331 t332 t333 _ A44.out).mono ?_
          rintro e w92 ⟨rfl, hb⟩
          refine ⟨_, rfl, ?_⟩
          have n0_ := law4A.keepB BK197 hb
          have n1_ := law4A.keepB BK209 hb
          have n2_ := law4A.keepB BK219 hb
          have n3_ := law4A.keepB BK298 hb
          have n4_ := law4A.keepB BK315 hb
          have n5_ := law4A.keepB BK325 hb
          have n6_ := Aside0.mk (below_step (by repeat (first | (with_reducible first | exact HB.out | apply below_alloc | apply pw_below_drewN | apply below_drew1 | refine below_set ?_ GE197.out | refine below_set ?_ GE209.out | refine below_set ?_ GE219.out | refine below_set ?_ GE298.out | refine below_set ?_ GE315.out | refine below_set ?_ GE325.out) | exact HB.out)) hb)
          clear BK197
          clear BK209
          clear BK219
          clear BK298
          clear BK315
          clear BK325
          clear HB
          have BK197 := n0_
          have BK209 := n1_
          have BK219 := n2_
          have BK298 := n3_
          have BK315 := n4_
          have BK325 := n5_
          have HB := n6_
          clear n0_ n1_ n2_ n3_ n4_ n5_ n6_
          (try clear hb)
          (try clear hb2)
          (try clear hk)
          (try clear hi)
          refine hK.out _ _ ⟨(blk_cell BK315.out 0).trans rfl, (blk_cell BK315.out 1).trans rfl, (blk_cell BK315.out 2).trans rfl, (blk_cell BK315.out 3).trans rfl, (blk_cell BK315.out 4).trans rfl, (blk_cell BK315.out 5).trans rfl, (blk_cell BK315.out 6).trans rfl, (blk_cell BK315.out 7).trans rfl, (blk_cell BK209.out 0).trans rfl, (blk_cell BK209.out 1).trans rfl, (blk_cell BK209.out 2).trans rfl, (blk_cell BK209.out 3).trans rfl, (blk_cell BK209.out 4).trans rfl, (blk_cell BK209.out 5).trans rfl, (blk_cell BK209.out 6).trans rfl, (blk_cell BK209.out 7).trans rfl⟩ (fun hHeld => ?_)
          clear hK K
          refine norm_ (a' := ?_) ?_ ?_
          rotate_left
          ·
           show Act.put _ (some 119) _ = _
           simp only [Act.put, List.setIfInBounds_toArray, List.set_cons_zero, List.set_cons_succ, i64_w, i32_w]
           rfl
          refine two_ (i := 3) (j := 8) (Ni := some 120) (Nj := some 16) #[T, T, T, T, F, F, F, F, F, F, F] #[T, T, T, F, F, F, F, F, T, F, F] rfl rfl rfl rfl (two_of HT_.out (by kernel_rfl)) (by decide) (by decide) (fun K hK => ?_) (fun K hK => ?_)
          ·
           skip
           refine goes_ Try.func16 (by kernel_rfl) rfl #[.agg #[.int .u32 t307, .int .u32 t308, .int .u32 t309, .int .u32 t310, .int .u32 t311, .int .u32 t312, .int .u32 t313, .int .u32 t314], .agg #[.int .u32 t326, .int .u32 t327, .int .u32 t328, .int .u32 t329, .int .u32 t330, .int .u32 t331, .int .u32 t332, .int .u32 t333]] (by rfl) rfl rfl (by (try simp only [List.map_toArray, List.map_cons, List.map_nil]); first | done | rfl | (simp only [List.length_drop, List.length_take]; rfl)) ?_
           with_reducible refine (offertoryref09_Add.calls t307 t308 t309 t310 t311 t312 t313 t314 t326 t327 t328 t329 t330 t331 t332 t333 t334 t335 t336 t337 t338 t339 t340 t341 _ A45.out).mono ?_
           rintro e w93 ⟨rfl, hb⟩
           refine ⟨_, rfl, ?_⟩
           have n0_ := law4A.keepB BK197 hb
           have n1_ := law4A.keepB BK209 hb
           have n2_ := law4A.keepB BK219 hb
           have n3_ := law4A.keepB BK298 hb
           have n4_ := law4A.keepB BK315 hb
           have n5_ := law4A.keepB BK325 hb
           have n6_ := Aside0.mk (below_step (by repeat (first | (with_reducible first | exact HB.out | apply below_alloc | apply pw_below_drewN | apply below_drew1 | refine below_set ?_ GE197.out | refine below_set ?_ GE209.out | refine below_set ?_ GE219.out | refine below_set ?_ GE298.out | refine below_set ?_ GE315.out | refine below_set ?_ GE325.out) | exact HB.out)) hb)
           clear BK197
           clear BK209
           clear BK219
           clear BK298
           clear BK315
           clear BK325
           clear HB
           have BK197 := n0_
           have BK209 := n1_
           have BK219 := n2_
           have BK298 := n3_
           have BK315 := n4_
           have BK325 := n5_
           have HB := n6_
           clear n0_ n1_ n2_ n3_ n4_ n5_ n6_
           (try clear hb)
           (try clear hb2)
           (try clear hk)
           (try clear hi)
           refine hK.out _ _ ⟨(blk_cell BK315.out 0).trans rfl, (blk_cell BK315.out 1).trans rfl, (blk_cell BK315.out 2).trans rfl, (blk_cell BK315.out 3).trans rfl, (blk_cell BK315.out 4).trans rfl, (blk_cell BK315.out 5).trans rfl, (blk_cell BK315.out 6).trans rfl, (blk_cell BK315.out 7).trans rfl, (blk_cell BK209.out 0).trans rfl, (blk_cell BK209.out 1).trans rfl, (blk_cell BK209.out 2).trans rfl, (blk_cell BK209.out 3).trans rfl, (blk_cell BK209.out 4).trans rfl, (blk_cell BK209.out 5).trans rfl, (blk_cell BK209.out 6).trans rfl, (blk_cell BK209.out 7).trans rfl⟩ (fun hHeld => ?_)
           clear hK K
           refine norm_ (a' := ?_) ?_ ?_
           rotate_left
           ·
            show Act.put _ (some 120) _ = _
            simp only [Act.put, List.setIfInBounds_toArray, List.set_cons_zero, List.set_cons_succ, i64_w, i32_w]
            rfl
           refine two_ (i := 4) (j := 8) (Ni := some 121) (Nj := some 16) #[T, T, T, T, T, F, F, F, F, F, F] #[T, T, T, T, F, F, F, F, T, F, F] rfl rfl rfl rfl (two_of HT_.out (by kernel_rfl)) (by decide) (by decide) (fun K hK => ?_) (fun K hK => ?_)
           ·
            skip
            refine goes_ Try.func15 (by kernel_rfl) rfl #[.agg #[.int .u32 t334, .int .u32 t335, .int .u32 t336, .int .u32 t337, .int .u32 t338, .int .u32 t339, .int .u32 t340, .int .u32 t341]] (by rfl) rfl rfl (by (try simp only [List.map_toArray, List.map_cons, List.map_nil]); first | done | rfl | (simp only [List.length_drop, List.length_take]; rfl)) ?_
            with_reducible refine (offertoryref09_Signed.calls t334 t335 t336 t337 t338 t339 t340 t341 t342 t343 t344 t345 t346 t347 t348 t349 t350 _ A46.out).mono ?_
            rintro e w94 ⟨rfl, hb⟩
            refine ⟨_, rfl, ?_⟩
            have n0_ := law4A.keepB BK197 hb
            have n1_ := law4A.keepB BK209 hb
            have n2_ := law4A.keepB BK219 hb
            have n3_ := law4A.keepB BK298 hb
            have n4_ := law4A.keepB BK315 hb
            have n5_ := law4A.keepB BK325 hb
            have n6_ := Aside0.mk (below_step (by repeat (first | (with_reducible first | exact HB.out | apply below_alloc | apply pw_below_drewN | apply below_drew1 | refine below_set ?_ GE197.out | refine below_set ?_ GE209.out | refine below_set ?_ GE219.out | refine below_set ?_ GE298.out | refine below_set ?_ GE315.out | refine below_set ?_ GE325.out) | exact HB.out)) hb)
            clear BK197
            clear BK209
            clear BK219
            clear BK298
            clear BK315
            clear BK325
            clear HB
            have BK197 := n0_
            have BK209 := n1_
            have BK219 := n2_
            have BK298 := n3_
            have BK315 := n4_
            have BK325 := n5_
            have HB := n6_
            clear n0_ n1_ n2_ n3_ n4_ n5_ n6_
            (try clear hb)
            (try clear hb2)
            (try clear hk)
            (try clear hi)
            refine hK.out _ _ ⟨(blk_cell BK315.out 0).trans rfl, (blk_cell BK315.out 1).trans rfl, (blk_cell BK315.out 2).trans rfl, (blk_cell BK315.out 3).trans rfl, (blk_cell BK315.out 4).trans rfl, (blk_cell BK315.out 5).trans rfl, (blk_cell BK315.out 6).trans rfl, (blk_cell BK315.out 7).trans rfl, (blk_cell BK209.out 0).trans rfl, (blk_cell BK209.out 1).trans rfl, (blk_cell BK209.out 2).trans rfl, (blk_cell BK209.out 3).trans rfl, (blk_cell BK209.out 4).trans rfl, (blk_cell BK209.out 5).trans rfl, (blk_cell BK209.out 6).trans rfl, (blk_cell BK209.out 7).trans rfl⟩ (fun hHeld => ?_)
            clear hK K
            refine norm_ (a' := ?_) ?_ ?_
            rotate_left
            ·
             show Act.put _ (some 121) _ = _
             simp only [Act.put, List.setIfInBounds_toArray, List.set_cons_zero, List.set_cons_succ, i64_w, i32_w]
             rfl
            refine pure_ (i := 5) (N := some 116) (v := ?_) (a' := ?_) #[T, T, T, T, T, T, F, F, F, F, F] rfl rfl (any_of HT_.out (by kernel_rfl)) (fun _ _ _ h => h) (Or.inl ⟨by rfl, ?_⟩) ?_ ?_
            rotate_left
            ·
             intro w'
             (try simp only [add_plain] at s0 s1 s2 s3 s4 s5 s6 s7 s8 s9 s10 s11 s12 s13 s14 s15)
             go_simp
             with_reducible rfl
            rotate_left
            ·
             simp only [Act.put, List.setIfInBounds_toArray, List.set_cons_zero, List.set_cons_succ, i64_w, i32_w]
             rfl
            refine pure_ (i := 6) (N := some 122) (v := ?_) (a' := ?_) #[T, T, T, T, T, T, T, F, F, F, F] rfl rfl (any_of HT_.out (by kernel_rfl)) (fun _ _ _ h => h) (Or.inl ⟨by rfl, ?_⟩) ?_ ?_
            rotate_left
            ·
             intro w'
             (try simp only [add_plain] at s0 s1 s2 s3 s4 s5 s6 s7 s8 s9 s10 s11 s12 s13 s14 s15)
             go_simp
             with_reducible rfl
            rotate_left
            ·
             simp only [Act.put, List.setIfInBounds_toArray, List.set_cons_zero, List.set_cons_succ, i64_w, i32_w]
             rfl
            refine pure_ (i := 7) (N := some 123) (v := ?_) (a' := ?_) #[T, T, T, T, T, T, T, T, F, F, F] rfl rfl (any_of HT_.out (by kernel_rfl)) (fun _ _ _ h => h) (Or.inl ⟨by rfl, ?_⟩) ?_ ?_
            rotate_left
            ·
             intro w'
             (try simp only [add_plain] at s0 s1 s2 s3 s4 s5 s6 s7 s8 s9 s10 s11 s12 s13 s14 s15)
             go_simp
             with_reducible rfl
            rotate_left
            ·
             simp only [Act.put, List.setIfInBounds_toArray, List.set_cons_zero, List.set_cons_succ, i64_w, i32_w]
             rfl
            refine one_ (i := 8) (N := some 16) #[T, T, T, T, T, T, T, T, T, F, F] rfl rfl (one_of HT_.out (by kernel_rfl)) (by decide) (fun K hK => ?_)
            refine box_step ?hg (N := 16) ?hd (cs := #[.int .u32 0, .int .u32 0, .int .u32 0, .int .u32 0, .int .u32 0, .int .u32 0, .int .u32 0, .int .u32 0]) (t := 41) ?hr ?_; (case hd => rfl); (case hg => rfl); (case hr => first | (go_simp; done) | (go_simp; rfl))
            intro gb351 hg w95 hbox hb
            have n0_ := law4A.keepB BK197 hb
            have n1_ := law4A.keepB BK209 hb
            have n2_ := law4A.keepB BK219 hb
            have n3_ := law4A.keepB BK298 hb
            have n4_ := law4A.keepB BK315 hb
            have n5_ := law4A.keepB BK325 hb
            have n6_ := Aside0.mk (below_step (by repeat (first | (with_reducible first | exact HB.out | apply below_alloc | apply pw_below_drewN | apply below_drew1 | refine below_set ?_ GE197.out | refine below_set ?_ GE209.out | refine below_set ?_ GE219.out | refine below_set ?_ GE298.out | refine below_set ?_ GE315.out | refine below_set ?_ GE325.out) | exact HB.out)) hb)
            have n7_ := Aside0.mk (hbox)
            have n8_ := Aside0.mk ((by rw [hg]; exact (below_size (by repeat (first | (with_reducible first | exact HB.out | apply below_alloc | apply pw_below_drewN | apply below_drew1 | refine below_set ?_ GE197.out | refine below_set ?_ GE209.out | refine below_set ?_ GE219.out | refine below_set ?_ GE298.out | refine below_set ?_ GE315.out | refine below_set ?_ GE325.out) | exact HB.out))) : w.heap.size ≤ gb351))
            have n9_ := Aside0.mk ((by rw [hg]; exact (below_size (by repeat (first | (with_reducible first | exact HB.out | apply below_alloc | apply pw_below_drewN | apply below_drew1 | refine below_set ?_ GE197.out | refine below_set ?_ GE209.out | refine below_set ?_ GE219.out | refine below_set ?_ GE298.out | refine below_set ?_ GE315.out | refine below_set ?_ GE325.out) | exact HB.out))) : w.heap.size ≤ gb351))
            have n10_ := law4A.neL BK197 hg
            have n11_ := law4A.neG BK197 hg
            have n12_ := law4A.neL BK209 hg
            have n13_ := law4A.neG BK209 hg
            have n14_ := law4A.neL BK219 hg
            have n15_ := law4A.neG BK219 hg
            have n16_ := law4A.neL BK298 hg
            have n17_ := law4A.neG BK298 hg
            have n18_ := law4A.neL BK315 hg
            have n19_ := law4A.neG BK315 hg
            have n20_ := law4A.neL BK325 hg
            have n21_ := law4A.neG BK325 hg
            clear BK197
            clear BK209
            clear BK219
            clear BK298
            clear BK315
            clear BK325
            clear HB
            have BK197 := n0_
            have BK209 := n1_
            have BK219 := n2_
            have BK298 := n3_
            have BK315 := n4_
            have BK325 := n5_
            have HB := n6_
            have BK351 := n7_
            have GW351 := n8_
            have GE351 := n9_
            have NB197_351 := n10_
            have NB351_197 := n11_
            have NB209_351 := n12_
            have NB351_209 := n13_
            have NB219_351 := n14_
            have NB351_219 := n15_
            have NB298_351 := n16_
            have NB351_298 := n17_
            have NB315_351 := n18_
            have NB351_315 := n19_
            have NB325_351 := n20_
            have NB351_325 := n21_
            clear n0_ n1_ n2_ n3_ n4_ n5_ n6_ n7_ n8_ n9_ n10_ n11_ n12_ n13_ n14_ n15_ n16_ n17_ n18_ n19_ n20_ n21_
            clear hb hbox hg
            refine hK.out _ _ ⟨(blk_cell BK315.out 0).trans rfl, (blk_cell BK315.out 1).trans rfl, (blk_cell BK315.out 2).trans rfl, (blk_cell BK315.out 3).trans rfl, (blk_cell BK315.out 4).trans rfl, (blk_cell BK315.out 5).trans rfl, (blk_cell BK315.out 6).trans rfl, (blk_cell BK315.out 7).trans rfl, (blk_cell BK209.out 0).trans rfl, (blk_cell BK209.out 1).trans rfl, (blk_cell BK209.out 2).trans rfl, (blk_cell BK209.out 3).trans rfl, (blk_cell BK209.out 4).trans rfl, (blk_cell BK209.out 5).trans rfl, (blk_cell BK209.out 6).trans rfl, (blk_cell BK209.out 7).trans rfl⟩ (fun hHeld => ?_)
            clear hK K
            refine norm_ (a' := ?_) ?_ ?_
            rotate_left
            ·
             show Act.put _ (some 16) _ = _
             simp only [Act.put, List.setIfInBounds_toArray, List.set_cons_zero, List.set_cons_succ, i64_w, i32_w]
             rfl
            exact norm_ (by simp only [putAll, Act.put, List.setIfInBounds_toArray, List.set_cons_zero, List.set_cons_succ]) (hCont (gb351) _ ⟨hHeld, (by (with_reducible repeat (first | refine blk_drewN ?_ _ | refine blk_drew ?_ | refine blk_alloc ?_ _)); exact BK197.out), (by (with_reducible repeat (first | refine blk_drewN ?_ _ | refine blk_drew ?_ | refine blk_alloc ?_ _)); exact BK209.out), (by (with_reducible repeat (first | refine blk_drewN ?_ _ | refine blk_drew ?_ | refine blk_alloc ?_ _)); exact BK219.out), (by (with_reducible repeat (first | refine blk_drewN ?_ _ | refine blk_drew ?_ | refine blk_alloc ?_ _)); exact BK298.out), (by (with_reducible repeat (first | refine blk_drewN ?_ _ | refine blk_drew ?_ | refine blk_alloc ?_ _)); exact BK315.out), (by (with_reducible repeat (first | refine blk_drewN ?_ _ | refine blk_drew ?_ | refine blk_alloc ?_ _)); exact BK325.out), (by (with_reducible repeat (first | refine blk_drewN ?_ _ | refine blk_drew ?_ | refine blk_alloc ?_ _)); exact BK351.out), GW351.out, GE351.out, NB197_351.out, NB351_197.out, NB209_351.out, NB351_209.out, NB219_351.out, NB351_219.out, NB298_351.out, NB351_298.out, NB315_351.out, NB351_315.out, NB325_351.out, NB351_325.out, (by repeat (first | (with_reducible first | exact HB.out | apply below_alloc | apply pw_below_drewN | apply below_drew1 | refine below_set ?_ GE197.out | refine below_set ?_ GE209.out | refine below_set ?_ GE219.out | refine below_set ?_ GE298.out | refine below_set ?_ GE315.out | refine below_set ?_ GE325.out | refine below_set ?_ GE351.out) | exact HB.out))⟩)
           ·
            skip
            refine box_step ?hg (N := 16) ?hd (cs := #[.int .u32 0, .int .u32 0, .int .u32 0, .int .u32 0, .int .u32 0, .int .u32 0, .int .u32 0, .int .u32 0]) (t := 41) ?hr ?_; (case hd => rfl); (case hg => rfl); (case hr => first | (go_simp; done) | (go_simp; rfl))
            intro gb351 hg w94 hbox hb
            have n0_ := law4A.keepB BK197 hb
            have n1_ := law4A.keepB BK209 hb
            have n2_ := law4A.keepB BK219 hb
            have n3_ := law4A.keepB BK298 hb
            have n4_ := law4A.keepB BK315 hb
            have n5_ := law4A.keepB BK325 hb
            have n6_ := Aside0.mk (below_step (by repeat (first | (with_reducible first | exact HB.out | apply below_alloc | apply pw_below_drewN | apply below_drew1 | refine below_set ?_ GE197.out | refine below_set ?_ GE209.out | refine below_set ?_ GE219.out | refine below_set ?_ GE298.out | refine below_set ?_ GE315.out | refine below_set ?_ GE325.out) | exact HB.out)) hb)
            have n7_ := Aside0.mk (hbox)
            have n8_ := Aside0.mk ((by rw [hg]; exact (below_size (by repeat (first | (with_reducible first | exact HB.out | apply below_alloc | apply pw_below_drewN | apply below_drew1 | refine below_set ?_ GE197.out | refine below_set ?_ GE209.out | refine below_set ?_ GE219.out | refine below_set ?_ GE298.out | refine below_set ?_ GE315.out | refine below_set ?_ GE325.out) | exact HB.out))) : w.heap.size ≤ gb351))
            have n9_ := Aside0.mk ((by rw [hg]; exact (below_size (by repeat (first | (with_reducible first | exact HB.out | apply below_alloc | apply pw_below_drewN | apply below_drew1 | refine below_set ?_ GE197.out | refine below_set ?_ GE209.out | refine below_set ?_ GE219.out | refine below_set ?_ GE298.out | refine below_set ?_ GE315.out | refine below_set ?_ GE325.out) | exact HB.out))) : w.heap.size ≤ gb351))
            have n10_ := law4A.neL BK197 hg
            have n11_ := law4A.neG BK197 hg
            have n12_ := law4A.neL BK209 hg
            have n13_ := law4A.neG BK209 hg
            have n14_ := law4A.neL BK219 hg
            have n15_ := law4A.neG BK219 hg
            have n16_ := law4A.neL BK298 hg
            have n17_ := law4A.neG BK298 hg
            have n18_ := law4A.neL BK315 hg
            have n19_ := law4A.neG BK315 hg
            have n20_ := law4A.neL BK325 hg
            have n21_ := law4A.neG BK325 hg
            clear BK197
            clear BK209
            clear BK219
            clear BK298
            clear BK315
            clear BK325
            clear HB
            have BK197 := n0_
            have BK209 := n1_
            have BK219 := n2_
            have BK298 := n3_
            have BK315 := n4_
            have BK325 := n5_
            have HB := n6_
            have BK351 := n7_
            have GW351 := n8_
            have GE351 := n9_
            have NB197_351 := n10_
            have NB351_197 := n11_
            have NB209_351 := n12_
            have NB351_209 := n13_
            have NB219_351 := n14_
            have NB351_219 := n15_
            have NB298_351 := n16_
            have NB351_298 := n17_
            have NB315_351 := n18_
            have NB351_315 := n19_
            have NB325_351 := n20_
            have NB351_325 := n21_
            clear n0_ n1_ n2_ n3_ n4_ n5_ n6_ n7_ n8_ n9_ n10_ n11_ n12_ n13_ n14_ n15_ n16_ n17_ n18_ n19_ n20_ n21_
            clear hb hbox hg
            refine hK.out _ _ ⟨(blk_cell BK315.out 0).trans rfl, (blk_cell BK315.out 1).trans rfl, (blk_cell BK315.out 2).trans rfl, (blk_cell BK315.out 3).trans rfl, (blk_cell BK315.out 4).trans rfl, (blk_cell BK315.out 5).trans rfl, (blk_cell BK315.out 6).trans rfl, (blk_cell BK315.out 7).trans rfl, (blk_cell BK209.out 0).trans rfl, (blk_cell BK209.out 1).trans rfl, (blk_cell BK209.out 2).trans rfl, (blk_cell BK209.out 3).trans rfl, (blk_cell BK209.out 4).trans rfl, (blk_cell BK209.out 5).trans rfl, (blk_cell BK209.out 6).trans rfl, (blk_cell BK209.out 7).trans rfl⟩ (fun hHeld => ?_)
            clear hK K
            refine norm_ (a' := ?_) ?_ ?_
            rotate_left
            ·
             show Act.put _ (some 16) _ = _
             simp only [Act.put, List.setIfInBounds_toArray, List.set_cons_zero, List.set_cons_succ, i64_w, i32_w]
             rfl
            refine one_ (i := 4) (N := some 121) #[T, T, T, T, T, F, F, F, T, F, F] rfl rfl (one_of HT_.out (by kernel_rfl)) (by decide) (fun K hK => ?_)
            refine goes_ Try.func15 (by kernel_rfl) rfl #[.agg #[.int .u32 t334, .int .u32 t335, .int .u32 t336, .int .u32 t337, .int .u32 t338, .int .u32 t339, .int .u32 t340, .int .u32 t341]] (by rfl) rfl rfl (by (try simp only [List.map_toArray, List.map_cons, List.map_nil]); first | done | rfl | (simp only [List.length_drop, List.length_take]; rfl)) ?_
            with_reducible refine (offertoryref09_Signed.calls t334 t335 t336 t337 t338 t339 t340 t341 t342 t343 t344 t345 t346 t347 t348 t349 t350 _ A46.out).mono ?_
            rintro e w95 ⟨rfl, hb⟩
            refine ⟨_, rfl, ?_⟩
            have n0_ := law4A.keepB BK197 hb
            have n1_ := law4A.keepB BK209 hb
            have n2_ := law4A.keepB BK219 hb
            have n3_ := law4A.keepB BK298 hb
            have n4_ := law4A.keepB BK315 hb
            have n5_ := law4A.keepB BK325 hb
            have n6_ := law4A.keepB BK351 hb
            have n7_ := Aside0.mk (below_step (by repeat (first | (with_reducible first | exact HB.out | apply below_alloc | apply pw_below_drewN | apply below_drew1 | refine below_set ?_ GE197.out | refine below_set ?_ GE209.out | refine below_set ?_ GE219.out | refine below_set ?_ GE298.out | refine below_set ?_ GE315.out | refine below_set ?_ GE325.out | refine below_set ?_ GE351.out) | exact HB.out)) hb)
            clear BK197
            clear BK209
            clear BK219
            clear BK298
            clear BK315
            clear BK325
            clear BK351
            clear HB
            have BK197 := n0_
            have BK209 := n1_
            have BK219 := n2_
            have BK298 := n3_
            have BK315 := n4_
            have BK325 := n5_
            have BK351 := n6_
            have HB := n7_
            clear n0_ n1_ n2_ n3_ n4_ n5_ n6_ n7_
            (try clear hb)
            (try clear hb2)
            (try clear hk)
            (try clear hi)
            refine hK.out _ _ ⟨(blk_cell BK315.out 0).trans rfl, (blk_cell BK315.out 1).trans rfl, (blk_cell BK315.out 2).trans rfl, (blk_cell BK315.out 3).trans rfl, (blk_cell BK315.out 4).trans rfl, (blk_cell BK315.out 5).trans rfl, (blk_cell BK315.out 6).trans rfl, (blk_cell BK315.out 7).trans rfl, (blk_cell BK209.out 0).trans rfl, (blk_cell BK209.out 1).trans rfl, (blk_cell BK209.out 2).trans rfl, (blk_cell BK209.out 3).trans rfl, (blk_cell BK209.out 4).trans rfl, (blk_cell BK209.out 5).trans rfl, (blk_cell BK209.out 6).trans rfl, (blk_cell BK209.out 7).trans rfl⟩ (fun hHeld => ?_)
            clear hK K
            refine norm_ (a' := ?_) ?_ ?_
            rotate_left
            ·
             show Act.put _ (some 121) _ = _
             simp only [Act.put, List.setIfInBounds_toArray, List.set_cons_zero, List.set_cons_succ, i64_w, i32_w]
             rfl
            refine pure_ (i := 5) (N := some 116) (v := ?_) (a' := ?_) #[T, T, T, T, T, T, F, F, T, F, F] rfl rfl (any_of HT_.out (by kernel_rfl)) (fun _ _ _ h => h) (Or.inl ⟨by rfl, ?_⟩) ?_ ?_
            rotate_left
            ·
             intro w'
             (try simp only [add_plain] at s0 s1 s2 s3 s4 s5 s6 s7 s8 s9 s10 s11 s12 s13 s14 s15)
             go_simp
             with_reducible rfl
            rotate_left
            ·
             simp only [Act.put, List.setIfInBounds_toArray, List.set_cons_zero, List.set_cons_succ, i64_w, i32_w]
             rfl
            refine pure_ (i := 6) (N := some 122) (v := ?_) (a' := ?_) #[T, T, T, T, T, T, T, F, T, F, F] rfl rfl (any_of HT_.out (by kernel_rfl)) (fun _ _ _ h => h) (Or.inl ⟨by rfl, ?_⟩) ?_ ?_
            rotate_left
            ·
             intro w'
             (try simp only [add_plain] at s0 s1 s2 s3 s4 s5 s6 s7 s8 s9 s10 s11 s12 s13 s14 s15)
             go_simp
             with_reducible rfl
            rotate_left
            ·
             simp only [Act.put, List.setIfInBounds_toArray, List.set_cons_zero, List.set_cons_succ, i64_w, i32_w]
             rfl
            refine pure_ (i := 7) (N := some 123) (v := ?_) (a' := ?_) #[T, T, T, T, T, T, T, T, T, F, F] rfl rfl (any_of HT_.out (by kernel_rfl)) (fun _ _ _ h => h) (Or.inl ⟨by rfl, ?_⟩) ?_ ?_
            rotate_left
            ·
             intro w'
             (try simp only [add_plain] at s0 s1 s2 s3 s4 s5 s6 s7 s8 s9 s10 s11 s12 s13 s14 s15)
             go_simp
             with_reducible rfl
            rotate_left
            ·
             simp only [Act.put, List.setIfInBounds_toArray, List.set_cons_zero, List.set_cons_succ, i64_w, i32_w]
             rfl
            exact norm_ (by simp only [putAll, Act.put, List.setIfInBounds_toArray, List.set_cons_zero, List.set_cons_succ]) (hCont (gb351) _ ⟨hHeld, (by (with_reducible repeat (first | refine blk_drewN ?_ _ | refine blk_drew ?_ | refine blk_alloc ?_ _)); exact BK197.out), (by (with_reducible repeat (first | refine blk_drewN ?_ _ | refine blk_drew ?_ | refine blk_alloc ?_ _)); exact BK209.out), (by (with_reducible repeat (first | refine blk_drewN ?_ _ | refine blk_drew ?_ | refine blk_alloc ?_ _)); exact BK219.out), (by (with_reducible repeat (first | refine blk_drewN ?_ _ | refine blk_drew ?_ | refine blk_alloc ?_ _)); exact BK298.out), (by (with_reducible repeat (first | refine blk_drewN ?_ _ | refine blk_drew ?_ | refine blk_alloc ?_ _)); exact BK315.out), (by (with_reducible repeat (first | refine blk_drewN ?_ _ | refine blk_drew ?_ | refine blk_alloc ?_ _)); exact BK325.out), (by (with_reducible repeat (first | refine blk_drewN ?_ _ | refine blk_drew ?_ | refine blk_alloc ?_ _)); exact BK351.out), GW351.out, GE351.out, NB197_351.out, NB351_197.out, NB209_351.out, NB351_209.out, NB219_351.out, NB351_219.out, NB298_351.out, NB351_298.out, NB315_351.out, NB351_315.out, NB325_351.out, NB351_325.out, (by repeat (first | (with_reducible first | exact HB.out | apply below_alloc | apply pw_below_drewN | apply below_drew1 | refine below_set ?_ GE197.out | refine below_set ?_ GE209.out | refine below_set ?_ GE219.out | refine below_set ?_ GE298.out | refine below_set ?_ GE315.out | refine below_set ?_ GE325.out | refine below_set ?_ GE351.out) | exact HB.out))⟩)
          ·
           skip
           refine box_step ?hg (N := 16) ?hd (cs := #[.int .u32 0, .int .u32 0, .int .u32 0, .int .u32 0, .int .u32 0, .int .u32 0, .int .u32 0, .int .u32 0]) (t := 41) ?hr ?_; (case hd => rfl); (case hg => rfl); (case hr => first | (go_simp; done) | (go_simp; rfl))
           intro gb351 hg w93 hbox hb
           have n0_ := law4A.keepB BK197 hb
           have n1_ := law4A.keepB BK209 hb
           have n2_ := law4A.keepB BK219 hb
           have n3_ := law4A.keepB BK298 hb
           have n4_ := law4A.keepB BK315 hb
           have n5_ := law4A.keepB BK325 hb
           have n6_ := Aside0.mk (below_step (by repeat (first | (with_reducible first | exact HB.out | apply below_alloc | apply pw_below_drewN | apply below_drew1 | refine below_set ?_ GE197.out | refine below_set ?_ GE209.out | refine below_set ?_ GE219.out | refine below_set ?_ GE298.out | refine below_set ?_ GE315.out | refine below_set ?_ GE325.out) | exact HB.out)) hb)
           have n7_ := Aside0.mk (hbox)
           have n8_ := Aside0.mk ((by rw [hg]; exact (below_size (by repeat (first | (with_reducible first | exact HB.out | apply below_alloc | apply pw_below_drewN | apply below_drew1 | refine below_set ?_ GE197.out | refine below_set ?_ GE209.out | refine below_set ?_ GE219.out | refine below_set ?_ GE298.out | refine below_set ?_ GE315.out | refine below_set ?_ GE325.out) | exact HB.out))) : w.heap.size ≤ gb351))
           have n9_ := Aside0.mk ((by rw [hg]; exact (below_size (by repeat (first | (with_reducible first | exact HB.out | apply below_alloc | apply pw_below_drewN | apply below_drew1 | refine below_set ?_ GE197.out | refine below_set ?_ GE209.out | refine below_set ?_ GE219.out | refine below_set ?_ GE298.out | refine below_set ?_ GE315.out | refine below_set ?_ GE325.out) | exact HB.out))) : w.heap.size ≤ gb351))
           have n10_ := law4A.neL BK197 hg
           have n11_ := law4A.neG BK197 hg
           have n12_ := law4A.neL BK209 hg
           have n13_ := law4A.neG BK209 hg
           have n14_ := law4A.neL BK219 hg
           have n15_ := law4A.neG BK219 hg
           have n16_ := law4A.neL BK298 hg
           have n17_ := law4A.neG BK298 hg
           have n18_ := law4A.neL BK315 hg
           have n19_ := law4A.neG BK315 hg
           have n20_ := law4A.neL BK325 hg
           have n21_ := law4A.neG BK325 hg
           clear BK197
           clear BK209
           clear BK219
           clear BK298
           clear BK315
           clear BK325
           clear HB
           have BK197 := n0_
           have BK209 := n1_
           have BK219 := n2_
           have BK298 := n3_
           have BK315 := n4_
           have BK325 := n5_
           have HB := n6_
           have BK351 := n7_
           have GW351 := n8_
           have GE351 := n9_
           have NB197_351 := n10_
           have NB351_197 := n11_
           have NB209_351 := n12_
           have NB351_209 := n13_
           have NB219_351 := n14_
           have NB351_219 := n15_
           have NB298_351 := n16_
           have NB351_298 := n17_
           have NB315_351 := n18_
           have NB351_315 := n19_
           have NB325_351 := n20_
           have NB351_325 := n21_
           clear n0_ n1_ n2_ n3_ n4_ n5_ n6_ n7_ n8_ n9_ n10_ n11_ n12_ n13_ n14_ n15_ n16_ n17_ n18_ n19_ n20_ n21_
           clear hb hbox hg
           refine hK.out _ _ ⟨(blk_cell BK315.out 0).trans rfl, (blk_cell BK315.out 1).trans rfl, (blk_cell BK315.out 2).trans rfl, (blk_cell BK315.out 3).trans rfl, (blk_cell BK315.out 4).trans rfl, (blk_cell BK315.out 5).trans rfl, (blk_cell BK315.out 6).trans rfl, (blk_cell BK315.out 7).trans rfl, (blk_cell BK209.out 0).trans rfl, (blk_cell BK209.out 1).trans rfl, (blk_cell BK209.out 2).trans rfl, (blk_cell BK209.out 3).trans rfl, (blk_cell BK209.out 4).trans rfl, (blk_cell BK209.out 5).trans rfl, (blk_cell BK209.out 6).trans rfl, (blk_cell BK209.out 7).trans rfl⟩ (fun hHeld => ?_)
           clear hK K
           refine norm_ (a' := ?_) ?_ ?_
           rotate_left
           ·
            show Act.put _ (some 16) _ = _
            simp only [Act.put, List.setIfInBounds_toArray, List.set_cons_zero, List.set_cons_succ, i64_w, i32_w]
            rfl
           refine one_ (i := 3) (N := some 120) #[T, T, T, T, F, F, F, F, T, F, F] rfl rfl (one_of HT_.out (by kernel_rfl)) (by decide) (fun K hK => ?_)
           refine goes_ Try.func16 (by kernel_rfl) rfl #[.agg #[.int .u32 t307, .int .u32 t308, .int .u32 t309, .int .u32 t310, .int .u32 t311, .int .u32 t312, .int .u32 t313, .int .u32 t314], .agg #[.int .u32 t326, .int .u32 t327, .int .u32 t328, .int .u32 t329, .int .u32 t330, .int .u32 t331, .int .u32 t332, .int .u32 t333]] (by rfl) rfl rfl (by (try simp only [List.map_toArray, List.map_cons, List.map_nil]); first | done | rfl | (simp only [List.length_drop, List.length_take]; rfl)) ?_
           with_reducible refine (offertoryref09_Add.calls t307 t308 t309 t310 t311 t312 t313 t314 t326 t327 t328 t329 t330 t331 t332 t333 t334 t335 t336 t337 t338 t339 t340 t341 _ A45.out).mono ?_
           rintro e w94 ⟨rfl, hb⟩
           refine ⟨_, rfl, ?_⟩
           have n0_ := law4A.keepB BK197 hb
           have n1_ := law4A.keepB BK209 hb
           have n2_ := law4A.keepB BK219 hb
           have n3_ := law4A.keepB BK298 hb
           have n4_ := law4A.keepB BK315 hb
           have n5_ := law4A.keepB BK325 hb
           have n6_ := law4A.keepB BK351 hb
           have n7_ := Aside0.mk (below_step (by repeat (first | (with_reducible first | exact HB.out | apply below_alloc | apply pw_below_drewN | apply below_drew1 | refine below_set ?_ GE197.out | refine below_set ?_ GE209.out | refine below_set ?_ GE219.out | refine below_set ?_ GE298.out | refine below_set ?_ GE315.out | refine below_set ?_ GE325.out | refine below_set ?_ GE351.out) | exact HB.out)) hb)
           clear BK197
           clear BK209
           clear BK219
           clear BK298
           clear BK315
           clear BK325
           clear BK351
           clear HB
           have BK197 := n0_
           have BK209 := n1_
           have BK219 := n2_
           have BK298 := n3_
           have BK315 := n4_
           have BK325 := n5_
           have BK351 := n6_
           have HB := n7_
           clear n0_ n1_ n2_ n3_ n4_ n5_ n6_ n7_
           (try clear hb)
           (try clear hb2)
           (try clear hk)
           (try clear hi)
           refine hK.out _ _ ⟨(blk_cell BK315.out 0).trans rfl, (blk_cell BK315.out 1).trans rfl, (blk_cell BK315.out 2).trans rfl, (blk_cell BK315.out 3).trans rfl, (blk_cell BK315.out 4).trans rfl, (blk_cell BK315.out 5).trans rfl, (blk_cell BK315.out 6).trans rfl, (blk_cell BK315.out 7).trans rfl, (blk_cell BK209.out 0).trans rfl, (blk_cell BK209.out 1).trans rfl, (blk_cell BK209.out 2).trans rfl, (blk_cell BK209.out 3).trans rfl, (blk_cell BK209.out 4).trans rfl, (blk_cell BK209.out 5).trans rfl, (blk_cell BK209.out 6).trans rfl, (blk_cell BK209.out 7).trans rfl⟩ (fun hHeld => ?_)
           clear hK K
           refine norm_ (a' := ?_) ?_ ?_
           rotate_left
           ·
            show Act.put _ (some 120) _ = _
            simp only [Act.put, List.setIfInBounds_toArray, List.set_cons_zero, List.set_cons_succ, i64_w, i32_w]
            rfl
           refine one_ (i := 4) (N := some 121) #[T, T, T, T, T, F, F, F, T, F, F] rfl rfl (one_of HT_.out (by kernel_rfl)) (by decide) (fun K hK => ?_)
           refine goes_ Try.func15 (by kernel_rfl) rfl #[.agg #[.int .u32 t334, .int .u32 t335, .int .u32 t336, .int .u32 t337, .int .u32 t338, .int .u32 t339, .int .u32 t340, .int .u32 t341]] (by rfl) rfl rfl (by (try simp only [List.map_toArray, List.map_cons, List.map_nil]); first | done | rfl | (simp only [List.length_drop, List.length_take]; rfl)) ?_
           with_reducible refine (offertoryref09_Signed.calls t334 t335 t336 t337 t338 t339 t340 t341 t342 t343 t344 t345 t346 t347 t348 t349 t350 _ A46.out).mono ?_
           rintro e w95 ⟨rfl, hb⟩
           refine ⟨_, rfl, ?_⟩
           have n0_ := law4A.keepB BK197 hb
           have n1_ := law4A.keepB BK209 hb
           have n2_ := law4A.keepB BK219 hb
           have n3_ := law4A.keepB BK298 hb
           have n4_ := law4A.keepB BK315 hb
           have n5_ := law4A.keepB BK325 hb
           have n6_ := law4A.keepB BK351 hb
           have n7_ := Aside0.mk (below_step (by repeat (first | (with_reducible first | exact HB.out | apply below_alloc | apply pw_below_drewN | apply below_drew1 | refine below_set ?_ GE197.out | refine below_set ?_ GE209.out | refine below_set ?_ GE219.out | refine below_set ?_ GE298.out | refine below_set ?_ GE315.out | refine below_set ?_ GE325.out | refine below_set ?_ GE351.out) | exact HB.out)) hb)
           clear BK197
           clear BK209
           clear BK219
           clear BK298
           clear BK315
           clear BK325
           clear BK351
           clear HB
           have BK197 := n0_
           have BK209 := n1_
           have BK219 := n2_
           have BK298 := n3_
           have BK315 := n4_
           have BK325 := n5_
           have BK351 := n6_
           have HB := n7_
           clear n0_ n1_ n2_ n3_ n4_ n5_ n6_ n7_
           (try clear hb)
           (try clear hb2)
           (try clear hk)
           (try clear hi)
           refine hK.out _ _ ⟨(blk_cell BK315.out 0).trans rfl, (blk_cell BK315.out 1).trans rfl, (blk_cell BK315.out 2).trans rfl, (blk_cell BK315.out 3).trans rfl, (blk_cell BK315.out 4).trans rfl, (blk_cell BK315.out 5).trans rfl, (blk_cell BK315.out 6).trans rfl, (blk_cell BK315.out 7).trans rfl, (blk_cell BK209.out 0).trans rfl, (blk_cell BK209.out 1).trans rfl, (blk_cell BK209.out 2).trans rfl, (blk_cell BK209.out 3).trans rfl, (blk_cell BK209.out 4).trans rfl, (blk_cell BK209.out 5).trans rfl, (blk_cell BK209.out 6).trans rfl, (blk_cell BK209.out 7).trans rfl⟩ (fun hHeld => ?_)
           clear hK K
           refine norm_ (a' := ?_) ?_ ?_
           rotate_left
           ·
            show Act.put _ (some 121) _ = _
            simp only [Act.put, List.setIfInBounds_toArray, List.set_cons_zero, List.set_cons_succ, i64_w, i32_w]
            rfl
           refine pure_ (i := 5) (N := some 116) (v := ?_) (a' := ?_) #[T, T, T, T, T, T, F, F, T, F, F] rfl rfl (any_of HT_.out (by kernel_rfl)) (fun _ _ _ h => h) (Or.inl ⟨by rfl, ?_⟩) ?_ ?_
           rotate_left
           ·
            intro w'
            (try simp only [add_plain] at s0 s1 s2 s3 s4 s5 s6 s7 s8 s9 s10 s11 s12 s13 s14 s15)
            go_simp
            with_reducible rfl
           rotate_left
           ·
            simp only [Act.put, List.setIfInBounds_toArray, List.set_cons_zero, List.set_cons_succ, i64_w, i32_w]
            rfl
           refine pure_ (i := 6) (N := some 122) (v := ?_) (a' := ?_) #[T, T, T, T, T, T, T, F, T, F, F] rfl rfl (any_of HT_.out (by kernel_rfl)) (fun _ _ _ h => h) (Or.inl ⟨by rfl, ?_⟩) ?_ ?_
           rotate_left
           ·
            intro w'
            (try simp only [add_plain] at s0 s1 s2 s3 s4 s5 s6 s7 s8 s9 s10 s11 s12 s13 s14 s15)
            go_simp
            with_reducible rfl
           rotate_left
           ·
            simp only [Act.put, List.setIfInBounds_toArray, List.set_cons_zero, List.set_cons_succ, i64_w, i32_w]
            rfl
           refine pure_ (i := 7) (N := some 123) (v := ?_) (a' := ?_) #[T, T, T, T, T, T, T, T, T, F, F] rfl rfl (any_of HT_.out (by kernel_rfl)) (fun _ _ _ h => h) (Or.inl ⟨by rfl, ?_⟩) ?_ ?_
           rotate_left
           ·
            intro w'
            (try simp only [add_plain] at s0 s1 s2 s3 s4 s5 s6 s7 s8 s9 s10 s11 s12 s13 s14 s15)
            go_simp
            with_reducible rfl
           rotate_left
           ·
            simp only [Act.put, List.setIfInBounds_toArray, List.set_cons_zero, List.set_cons_succ, i64_w, i32_w]
            rfl
           exact norm_ (by simp only [putAll, Act.put, List.setIfInBounds_toArray, List.set_cons_zero, List.set_cons_succ]) (hCont (gb351) _ ⟨hHeld, (by (with_reducible repeat (first | refine blk_drewN ?_ _ | refine blk_drew ?_ | refine blk_alloc ?_ _)); exact BK197.out), (by (with_reducible repeat (first | refine blk_drewN ?_ _ | refine blk_drew ?_ | refine blk_alloc ?_ _)); exact BK209.out), (by (with_reducible repeat (first | refine blk_drewN ?_ _ | refine blk_drew ?_ | refine blk_alloc ?_ _)); exact BK219.out), (by (with_reducible repeat (first | refine blk_drewN ?_ _ | refine blk_drew ?_ | refine blk_alloc ?_ _)); exact BK298.out), (by (with_reducible repeat (first | refine blk_drewN ?_ _ | refine blk_drew ?_ | refine blk_alloc ?_ _)); exact BK315.out), (by (with_reducible repeat (first | refine blk_drewN ?_ _ | refine blk_drew ?_ | refine blk_alloc ?_ _)); exact BK325.out), (by (with_reducible repeat (first | refine blk_drewN ?_ _ | refine blk_drew ?_ | refine blk_alloc ?_ _)); exact BK351.out), GW351.out, GE351.out, NB197_351.out, NB351_197.out, NB209_351.out, NB351_209.out, NB219_351.out, NB351_219.out, NB298_351.out, NB351_298.out, NB315_351.out, NB351_315.out, NB325_351.out, NB351_325.out, (by repeat (first | (with_reducible first | exact HB.out | apply below_alloc | apply pw_below_drewN | apply below_drew1 | refine below_set ?_ GE197.out | refine below_set ?_ GE209.out | refine below_set ?_ GE219.out | refine below_set ?_ GE298.out | refine below_set ?_ GE315.out | refine below_set ?_ GE325.out | refine below_set ?_ GE351.out) | exact HB.out))⟩)
         ·
          skip
          refine box_step ?hg (N := 16) ?hd (cs := #[.int .u32 0, .int .u32 0, .int .u32 0, .int .u32 0, .int .u32 0, .int .u32 0, .int .u32 0, .int .u32 0]) (t := 41) ?hr ?_; (case hd => rfl); (case hg => rfl); (case hr => first | (go_simp; done) | (go_simp; rfl))
          intro gb351 hg w92 hbox hb
          have n0_ := law4A.keepB BK197 hb
          have n1_ := law4A.keepB BK209 hb
          have n2_ := law4A.keepB BK219 hb
          have n3_ := law4A.keepB BK298 hb
          have n4_ := law4A.keepB BK315 hb
          have n5_ := law4A.keepB BK325 hb
          have n6_ := Aside0.mk (below_step (by repeat (first | (with_reducible first | exact HB.out | apply below_alloc | apply pw_below_drewN | apply below_drew1 | refine below_set ?_ GE197.out | refine below_set ?_ GE209.out | refine below_set ?_ GE219.out | refine below_set ?_ GE298.out | refine below_set ?_ GE315.out | refine below_set ?_ GE325.out) | exact HB.out)) hb)
          have n7_ := Aside0.mk (hbox)
          have n8_ := Aside0.mk ((by rw [hg]; exact (below_size (by repeat (first | (with_reducible first | exact HB.out | apply below_alloc | apply pw_below_drewN | apply below_drew1 | refine below_set ?_ GE197.out | refine below_set ?_ GE209.out | refine below_set ?_ GE219.out | refine below_set ?_ GE298.out | refine below_set ?_ GE315.out | refine below_set ?_ GE325.out) | exact HB.out))) : w.heap.size ≤ gb351))
          have n9_ := Aside0.mk ((by rw [hg]; exact (below_size (by repeat (first | (with_reducible first | exact HB.out | apply below_alloc | apply pw_below_drewN | apply below_drew1 | refine below_set ?_ GE197.out | refine below_set ?_ GE209.out | refine below_set ?_ GE219.out | refine below_set ?_ GE298.out | refine below_set ?_ GE315.out | refine below_set ?_ GE325.out) | exact HB.out))) : w.heap.size ≤ gb351))
          have n10_ := law4A.neL BK197 hg
          have n11_ := law4A.neG BK197 hg
          have n12_ := law4A.neL BK209 hg
          have n13_ := law4A.neG BK209 hg
          have n14_ := law4A.neL BK219 hg
          have n15_ := law4A.neG BK219 hg
          have n16_ := law4A.neL BK298 hg
          have n17_ := law4A.neG BK298 hg
          have n18_ := law4A.neL BK315 hg
          have n19_ := law4A.neG BK315 hg
          have n20_ := law4A.neL BK325 hg
          have n21_ := law4A.neG BK325 hg
          clear BK197
          clear BK209
          clear BK219
          clear BK298
          clear BK315
          clear BK325
          clear HB
          have BK197 := n0_
          have BK209 := n1_
          have BK219 := n2_
          have BK298 := n3_
          have BK315 := n4_
          have BK325 := n5_
          have HB := n6_
          have BK351 := n7_
          have GW351 := n8_
          have GE351 := n9_
          have NB197_351 := n10_
          have NB351_197 := n11_
          have NB209_351 := n12_
          have NB351_209 := n13_
          have NB219_351 := n14_
          have NB351_219 := n15_
          have NB298_351 := n16_
          have NB351_298 := n17_
          have NB315_351 := n18_
          have NB351_315 := n19_
          have NB325_351 := n20_
          have NB351_325 := n21_
          clear n0_ n1_ n2_ n3_ n4_ n5_ n6_ n7_ n8_ n9_ n10_ n11_ n12_ n13_ n14_ n15_ n16_ n17_ n18_ n19_ n20_ n21_
          clear hb hbox hg
          refine hK.out _ _ ⟨(blk_cell BK315.out 0).trans rfl, (blk_cell BK315.out 1).trans rfl, (blk_cell BK315.out 2).trans rfl, (blk_cell BK315.out 3).trans rfl, (blk_cell BK315.out 4).trans rfl, (blk_cell BK315.out 5).trans rfl, (blk_cell BK315.out 6).trans rfl, (blk_cell BK315.out 7).trans rfl, (blk_cell BK209.out 0).trans rfl, (blk_cell BK209.out 1).trans rfl, (blk_cell BK209.out 2).trans rfl, (blk_cell BK209.out 3).trans rfl, (blk_cell BK209.out 4).trans rfl, (blk_cell BK209.out 5).trans rfl, (blk_cell BK209.out 6).trans rfl, (blk_cell BK209.out 7).trans rfl⟩ (fun hHeld => ?_)
          clear hK K
          refine norm_ (a' := ?_) ?_ ?_
          rotate_left
          ·
           show Act.put _ (some 16) _ = _
           simp only [Act.put, List.setIfInBounds_toArray, List.set_cons_zero, List.set_cons_succ, i64_w, i32_w]
           rfl
          refine one_ (i := 2) (N := some 119) #[T, T, T, F, F, F, F, F, T, F, F] rfl rfl (one_of HT_.out (by kernel_rfl)) (by decide) (fun K hK => ?_)
          refine goes_ Try.func13 (by kernel_rfl) rfl #[.agg #[.int .u32 t201, .int .u32 t202, .int .u32 t203, .int .u32 t204, .int .u32 t205, .int .u32 t206, .int .u32 t207, .int .u32 t208]] (by rfl) rfl rfl (by (try simp only [List.map_toArray, List.map_cons, List.map_nil]); first | done | rfl | (simp only [List.length_drop, List.length_take]; rfl)) ?_
          with_reducible refine (offertoryref09_Neg.calls t201 t202 t203 t204 t205 t206 t207 t208 t326 t327 t328 t329 t330 t331 t332 t333 _ A44.out).mono ?_
          rintro e w93 ⟨rfl, hb⟩
          refine ⟨_, rfl, ?_⟩
          have n0_ := law4A.keepB BK197 hb
          have n1_ := law4A.keepB BK209 hb
          have n2_ := law4A.keepB BK219 hb
          have n3_ := law4A.keepB BK298 hb
          have n4_ := law4A.keepB BK315 hb
          have n5_ := law4A.keepB BK325 hb
          have n6_ := law4A.keepB BK351 hb
          have n7_ := Aside0.mk (below_step (by repeat (first | (with_reducible first | exact HB.out | apply below_alloc | apply pw_below_drewN | apply below_drew1 | refine below_set ?_ GE197.out | refine below_set ?_ GE209.out | refine below_set ?_ GE219.out | refine below_set ?_ GE298.out | refine below_set ?_ GE315.out | refine below_set ?_ GE325.out | refine below_set ?_ GE351.out) | exact HB.out)) hb)
          clear BK197
          clear BK209
          clear BK219
          clear BK298
          clear BK315
          clear BK325
          clear BK351
          clear HB
          have BK197 := n0_
          have BK209 := n1_
          have BK219 := n2_
          have BK298 := n3_
          have BK315 := n4_
          have BK325 := n5_
          have BK351 := n6_
          have HB := n7_
          clear n0_ n1_ n2_ n3_ n4_ n5_ n6_ n7_
          (try clear hb)
          (try clear hb2)
          (try clear hk)
          (try clear hi)
          refine hK.out _ _ ⟨(blk_cell BK315.out 0).trans rfl, (blk_cell BK315.out 1).trans rfl, (blk_cell BK315.out 2).trans rfl, (blk_cell BK315.out 3).trans rfl, (blk_cell BK315.out 4).trans rfl, (blk_cell BK315.out 5).trans rfl, (blk_cell BK315.out 6).trans rfl, (blk_cell BK315.out 7).trans rfl, (blk_cell BK209.out 0).trans rfl, (blk_cell BK209.out 1).trans rfl, (blk_cell BK209.out 2).trans rfl, (blk_cell BK209.out 3).trans rfl, (blk_cell BK209.out 4).trans rfl, (blk_cell BK209.out 5).trans rfl, (blk_cell BK209.out 6).trans rfl, (blk_cell BK209.out 7).trans rfl⟩ (fun hHeld => ?_)
          clear hK K
          refine norm_ (a' := ?_) ?_ ?_
          rotate_left
          ·
           show Act.put _ (some 119) _ = _
           simp only [Act.put, List.setIfInBounds_toArray, List.set_cons_zero, List.set_cons_succ, i64_w, i32_w]
           rfl
          refine one_ (i := 3) (N := some 120) #[T, T, T, T, F, F, F, F, T, F, F] rfl rfl (one_of HT_.out (by kernel_rfl)) (by decide) (fun K hK => ?_)
          refine goes_ Try.func16 (by kernel_rfl) rfl #[.agg #[.int .u32 t307, .int .u32 t308, .int .u32 t309, .int .u32 t310, .int .u32 t311, .int .u32 t312, .int .u32 t313, .int .u32 t314], .agg #[.int .u32 t326, .int .u32 t327, .int .u32 t328, .int .u32 t329, .int .u32 t330, .int .u32 t331, .int .u32 t332, .int .u32 t333]] (by rfl) rfl rfl (by (try simp only [List.map_toArray, List.map_cons, List.map_nil]); first | done | rfl | (simp only [List.length_drop, List.length_take]; rfl)) ?_
          with_reducible refine (offertoryref09_Add.calls t307 t308 t309 t310 t311 t312 t313 t314 t326 t327 t328 t329 t330 t331 t332 t333 t334 t335 t336 t337 t338 t339 t340 t341 _ A45.out).mono ?_
          rintro e w94 ⟨rfl, hb⟩
          refine ⟨_, rfl, ?_⟩
          have n0_ := law4A.keepB BK197 hb
          have n1_ := law4A.keepB BK209 hb
          have n2_ := law4A.keepB BK219 hb
          have n3_ := law4A.keepB BK298 hb
          have n4_ := law4A.keepB BK315 hb
          have n5_ := law4A.keepB BK325 hb
          have n6_ := law4A.keepB BK351 hb
          have n7_ := Aside0.mk (below_step (by repeat (first | (with_reducible first | exact HB.out | apply below_alloc | apply pw_below_drewN | apply below_drew1 | refine below_set ?_ GE197.out | refine below_set ?_ GE209.out | refine below_set ?_ GE219.out | refine below_set ?_ GE298.out | refine below_set ?_ GE315.out | refine below_set ?_ GE325.out | refine below_set ?_ GE351.out) | exact HB.out)) hb)
          clear BK197
          clear BK209
          clear BK219
          clear BK298
          clear BK315
          clear BK325
          clear BK351
          clear HB
          have BK197 := n0_
          have BK209 := n1_
          have BK219 := n2_
          have BK298 := n3_
          have BK315 := n4_
          have BK325 := n5_
          have BK351 := n6_
          have HB := n7_
          clear n0_ n1_ n2_ n3_ n4_ n5_ n6_ n7_
          (try clear hb)
          (try clear hb2)
          (try clear hk)
          (try clear hi)
          refine hK.out _ _ ⟨(blk_cell BK315.out 0).trans rfl, (blk_cell BK315.out 1).trans rfl, (blk_cell BK315.out 2).trans rfl, (blk_cell BK315.out 3).trans rfl, (blk_cell BK315.out 4).trans rfl, (blk_cell BK315.out 5).trans rfl, (blk_cell BK315.out 6).trans rfl, (blk_cell BK315.out 7).trans rfl, (blk_cell BK209.out 0).trans rfl, (blk_cell BK209.out 1).trans rfl, (blk_cell BK209.out 2).trans rfl, (blk_cell BK209.out 3).trans rfl, (blk_cell BK209.out 4).trans rfl, (blk_cell BK209.out 5).trans rfl, (blk_cell BK209.out 6).trans rfl, (blk_cell BK209.out 7).trans rfl⟩ (fun hHeld => ?_)
          clear hK K
          refine norm_ (a' := ?_) ?_ ?_
          rotate_left
          ·
           show Act.put _ (some 120) _ = _
           simp only [Act.put, List.setIfInBounds_toArray, List.set_cons_zero, List.set_cons_succ, i64_w, i32_w]
           rfl
          refine one_ (i := 4) (N := some 121) #[T, T, T, T, T, F, F, F, T, F, F] rfl rfl (one_of HT_.out (by kernel_rfl)) (by decide) (fun K hK => ?_)
          refine goes_ Try.func15 (by kernel_rfl) rfl #[.agg #[.int .u32 t334, .int .u32 t335, .int .u32 t336, .int .u32 t337, .int .u32 t338, .int .u32 t339, .int .u32 t340, .int .u32 t341]] (by rfl) rfl rfl (by (try simp only [List.map_toArray, List.map_cons, List.map_nil]); first | done | rfl | (simp only [List.length_drop, List.length_take]; rfl)) ?_
          with_reducible refine (offertoryref09_Signed.calls t334 t335 t336 t337 t338 t339 t340 t341 t342 t343 t344 t345 t346 t347 t348 t349 t350 _ A46.out).mono ?_
          rintro e w95 ⟨rfl, hb⟩
          refine ⟨_, rfl, ?_⟩
          have n0_ := law4A.keepB BK197 hb
          have n1_ := law4A.keepB BK209 hb
          have n2_ := law4A.keepB BK219 hb
          have n3_ := law4A.keepB BK298 hb
          have n4_ := law4A.keepB BK315 hb
          have n5_ := law4A.keepB BK325 hb
          have n6_ := law4A.keepB BK351 hb
          have n7_ := Aside0.mk (below_step (by repeat (first | (with_reducible first | exact HB.out | apply below_alloc | apply pw_below_drewN | apply below_drew1 | refine below_set ?_ GE197.out | refine below_set ?_ GE209.out | refine below_set ?_ GE219.out | refine below_set ?_ GE298.out | refine below_set ?_ GE315.out | refine below_set ?_ GE325.out | refine below_set ?_ GE351.out) | exact HB.out)) hb)
          clear BK197
          clear BK209
          clear BK219
          clear BK298
          clear BK315
          clear BK325
          clear BK351
          clear HB
          have BK197 := n0_
          have BK209 := n1_
          have BK219 := n2_
          have BK298 := n3_
          have BK315 := n4_
          have BK325 := n5_
          have BK351 := n6_
          have HB := n7_
          clear n0_ n1_ n2_ n3_ n4_ n5_ n6_ n7_
          (try clear hb)
          (try clear hb2)
          (try clear hk)
          (try clear hi)
          refine hK.out _ _ ⟨(blk_cell BK315.out 0).trans rfl, (blk_cell BK315.out 1).trans rfl, (blk_cell BK315.out 2).trans rfl, (blk_cell BK315.out 3).trans rfl, (blk_cell BK315.out 4).trans rfl, (blk_cell BK315.out 5).trans rfl, (blk_cell BK315.out 6).trans rfl, (blk_cell BK315.out 7).trans rfl, (blk_cell BK209.out 0).trans rfl, (blk_cell BK209.out 1).trans rfl, (blk_cell BK209.out 2).trans rfl, (blk_cell BK209.out 3).trans rfl, (blk_cell BK209.out 4).trans rfl, (blk_cell BK209.out 5).trans rfl, (blk_cell BK209.out 6).trans rfl, (blk_cell BK209.out 7).trans rfl⟩ (fun hHeld => ?_)
          clear hK K
          refine norm_ (a' := ?_) ?_ ?_
          rotate_left
          ·
           show Act.put _ (some 121) _ = _
           simp only [Act.put, List.setIfInBounds_toArray, List.set_cons_zero, List.set_cons_succ, i64_w, i32_w]
           rfl
          refine pure_ (i := 5) (N := some 116) (v := ?_) (a' := ?_) #[T, T, T, T, T, T, F, F, T, F, F] rfl rfl (any_of HT_.out (by kernel_rfl)) (fun _ _ _ h => h) (Or.inl ⟨by rfl, ?_⟩) ?_ ?_
          rotate_left
          ·
           intro w'
           (try simp only [add_plain] at s0 s1 s2 s3 s4 s5 s6 s7 s8 s9 s10 s11 s12 s13 s14 s15)
           go_simp
           with_reducible rfl
          rotate_left
          ·
           simp only [Act.put, List.setIfInBounds_toArray, List.set_cons_zero, List.set_cons_succ, i64_w, i32_w]
           rfl
          refine pure_ (i := 6) (N := some 122) (v := ?_) (a' := ?_) #[T, T, T, T, T, T, T, F, T, F, F] rfl rfl (any_of HT_.out (by kernel_rfl)) (fun _ _ _ h => h) (Or.inl ⟨by rfl, ?_⟩) ?_ ?_
          rotate_left
          ·
           intro w'
           (try simp only [add_plain] at s0 s1 s2 s3 s4 s5 s6 s7 s8 s9 s10 s11 s12 s13 s14 s15)
           go_simp
           with_reducible rfl
          rotate_left
          ·
           simp only [Act.put, List.setIfInBounds_toArray, List.set_cons_zero, List.set_cons_succ, i64_w, i32_w]
           rfl
          refine pure_ (i := 7) (N := some 123) (v := ?_) (a' := ?_) #[T, T, T, T, T, T, T, T, T, F, F] rfl rfl (any_of HT_.out (by kernel_rfl)) (fun _ _ _ h => h) (Or.inl ⟨by rfl, ?_⟩) ?_ ?_
          rotate_left
          ·
           intro w'
           (try simp only [add_plain] at s0 s1 s2 s3 s4 s5 s6 s7 s8 s9 s10 s11 s12 s13 s14 s15)
           go_simp
           with_reducible rfl
          rotate_left
          ·
           simp only [Act.put, List.setIfInBounds_toArray, List.set_cons_zero, List.set_cons_succ, i64_w, i32_w]
           rfl
          exact norm_ (by simp only [putAll, Act.put, List.setIfInBounds_toArray, List.set_cons_zero, List.set_cons_succ]) (hCont (gb351) _ ⟨hHeld, (by (with_reducible repeat (first | refine blk_drewN ?_ _ | refine blk_drew ?_ | refine blk_alloc ?_ _)); exact BK197.out), (by (with_reducible repeat (first | refine blk_drewN ?_ _ | refine blk_drew ?_ | refine blk_alloc ?_ _)); exact BK209.out), (by (with_reducible repeat (first | refine blk_drewN ?_ _ | refine blk_drew ?_ | refine blk_alloc ?_ _)); exact BK219.out), (by (with_reducible repeat (first | refine blk_drewN ?_ _ | refine blk_drew ?_ | refine blk_alloc ?_ _)); exact BK298.out), (by (with_reducible repeat (first | refine blk_drewN ?_ _ | refine blk_drew ?_ | refine blk_alloc ?_ _)); exact BK315.out), (by (with_reducible repeat (first | refine blk_drewN ?_ _ | refine blk_drew ?_ | refine blk_alloc ?_ _)); exact BK325.out), (by (with_reducible repeat (first | refine blk_drewN ?_ _ | refine blk_drew ?_ | refine blk_alloc ?_ _)); exact BK351.out), GW351.out, GE351.out, NB197_351.out, NB351_197.out, NB209_351.out, NB351_209.out, NB219_351.out, NB351_219.out, NB298_351.out, NB351_298.out, NB315_351.out, NB351_315.out, NB325_351.out, NB351_325.out, (by repeat (first | (with_reducible first | exact HB.out | apply below_alloc | apply pw_below_drewN | apply below_drew1 | refine below_set ?_ GE197.out | refine below_set ?_ GE209.out | refine below_set ?_ GE219.out | refine below_set ?_ GE298.out | refine below_set ?_ GE315.out | refine below_set ?_ GE325.out | refine below_set ?_ GE351.out) | exact HB.out))⟩)
        rintro gb351 w96 ⟨hS_, h0_, h1_, h2_, h3_, h4_, h5_, h6_, h7_, h8_, h9_, h10_, h11_, h12_, h13_, h14_, h15_, h16_, h17_, h18_, h19_, h20_, h21_⟩
        have n0_ : Aside0 (w96.heap[gb197]? = some (.cells #[.slice A0_0 l0_0.length c0_0, .int .i64 a0_1, .int .u64 a0_2, .int .u64 a0_3, .int .u64 a0_4, .int .u64 a0_5, .bool a0_6] 36 (0, 0))) := ⟨h0_⟩
        have n1_ : Aside0 (w96.heap[gb209]? = some (.cells #[.int .u32 t201, .int .u32 t202, .int .u32 t203, .int .u32 t204, .int .u32 t205, .int .u32 t206, .int .u32 t207, .int .u32 t208] 41 (0, 0))) := ⟨h1_⟩
        have n2_ : Aside0 (w96.heap[gb219]? = some (.cells #[.int .u32 x220000_14, .int .u32 x220001_14, .int .u32 x220002_14, .int .u32 x220003_14, .int .u32 x220004_14, .int .u32 x220005_14, .int .u32 x220006_14, .int .u32 x220007_14] 41 (0, 0))) := ⟨h2_⟩
        have n3_ : Aside0 (w96.heap[gb298]? = some (.cells #[.int .u32 t290, .int .u32 t291, .int .u32 t292, .int .u32 t293, .int .u32 t294, .int .u32 t295, .int .u32 t296, .int .u32 t297] 41 (0, 0))) := ⟨h3_⟩
        have n4_ : Aside0 (w96.heap[gb315]? = some (.cells #[.int .u32 t307, .int .u32 t308, .int .u32 t309, .int .u32 t310, .int .u32 t311, .int .u32 t312, .int .u32 t313, .int .u32 t314] 41 (0, 0))) := ⟨h4_⟩
        have n5_ : Aside0 (w96.heap[gb325]? = some (.cells #[.int .u32 t316, .int .u32 t317, .int .u32 t318, .int .u32 t319, .int .u32 t320, .int .u32 t321, .int .u32 t322, .int .u32 t323] 41 (0, 0))) := ⟨h5_⟩
        have n6_ : Aside0 (w96.heap[gb351]? = some (.cells #[.int .u32 0, .int .u32 0, .int .u32 0, .int .u32 0, .int .u32 0, .int .u32 0, .int .u32 0, .int .u32 0] 41 (0, 0))) := ⟨h6_⟩
        have n7_ : Aside0 (w.heap.size ≤ gb351) := ⟨h7_⟩
        have n8_ : Aside0 (w.heap.size ≤ gb351) := ⟨h8_⟩
        have n9_ : Aside0 (gb197 ≠ gb351) := ⟨h9_⟩
        have n10_ : Aside0 (gb351 ≠ gb197) := ⟨h10_⟩
        have n11_ : Aside0 (gb209 ≠ gb351) := ⟨h11_⟩
        have n12_ : Aside0 (gb351 ≠ gb209) := ⟨h12_⟩
        have n13_ : Aside0 (gb219 ≠ gb351) := ⟨h13_⟩
        have n14_ : Aside0 (gb351 ≠ gb219) := ⟨h14_⟩
        have n15_ : Aside0 (gb298 ≠ gb351) := ⟨h15_⟩
        have n16_ : Aside0 (gb351 ≠ gb298) := ⟨h16_⟩
        have n17_ : Aside0 (gb315 ≠ gb351) := ⟨h17_⟩
        have n18_ : Aside0 (gb351 ≠ gb315) := ⟨h18_⟩
        have n19_ : Aside0 (gb325 ≠ gb351) := ⟨h19_⟩
        have n20_ : Aside0 (gb351 ≠ gb325) := ⟨h20_⟩
        have n21_ : Aside0 (Below w.heap.size w w96) := ⟨h21_⟩
        clear BK197
        clear BK209
        clear BK219
        clear BK298
        clear BK315
        clear BK325
        clear HB
        clear h0_ h1_ h2_ h3_ h4_ h5_ h6_ h7_ h8_ h9_ h10_ h11_ h12_ h13_ h14_ h15_ h16_ h17_ h18_ h19_ h20_ h21_
        have BK197 := n0_
        have BK209 := n1_
        have BK219 := n2_
        have BK298 := n3_
        have BK315 := n4_
        have BK325 := n5_
        have BK351 := n6_
        have GW351 := n7_
        have GE351 := n8_
        have NB197_351 := n9_
        have NB351_197 := n10_
        have NB209_351 := n11_
        have NB351_209 := n12_
        have NB219_351 := n13_
        have NB351_219 := n14_
        have NB298_351 := n15_
        have NB351_298 := n16_
        have NB315_351 := n17_
        have NB351_315 := n18_
        have NB325_351 := n19_
        have NB351_325 := n20_
        have HB := n21_
        clear n0_ n1_ n2_ n3_ n4_ n5_ n6_ n7_ n8_ n9_ n10_ n11_ n12_ n13_ n14_ n15_ n16_ n17_ n18_ n19_ n20_ n21_
        have hHeld : w96.cell? ⟨gb315, 0, none⟩ = some (.int .u32 t307) ∧ w96.cell? ⟨gb315, 1, none⟩ = some (.int .u32 t308) ∧ w96.cell? ⟨gb315, 2, none⟩ = some (.int .u32 t309) ∧ w96.cell? ⟨gb315, 3, none⟩ = some (.int .u32 t310) ∧ w96.cell? ⟨gb315, 4, none⟩ = some (.int .u32 t311) ∧ w96.cell? ⟨gb315, 5, none⟩ = some (.int .u32 t312) ∧ w96.cell? ⟨gb315, 6, none⟩ = some (.int .u32 t313) ∧ w96.cell? ⟨gb315, 7, none⟩ = some (.int .u32 t314) ∧ w96.cell? ⟨gb209, 0, none⟩ = some (.int .u32 t201) ∧ w96.cell? ⟨gb209, 1, none⟩ = some (.int .u32 t202) ∧ w96.cell? ⟨gb209, 2, none⟩ = some (.int .u32 t203) ∧ w96.cell? ⟨gb209, 3, none⟩ = some (.int .u32 t204) ∧ w96.cell? ⟨gb209, 4, none⟩ = some (.int .u32 t205) ∧ w96.cell? ⟨gb209, 5, none⟩ = some (.int .u32 t206) ∧ w96.cell? ⟨gb209, 6, none⟩ = some (.int .u32 t207) ∧ w96.cell? ⟨gb209, 7, none⟩ = some (.int .u32 t208) := hS_
        refine norm_ (a' := ?_) ?_ ?_
        rotate_left
        ·
         simp only [putAll, Act.put, List.setIfInBounds_toArray, List.set_cons_zero, List.set_cons_succ]
         rfl
        refine one_ (i := 9) (N := none) #[T, T, T, T, T, T, T, T, T, T, F] rfl rfl (one_of HT_.out (by kernel_rfl)) (by decide) (fun K hK => ?_)
        have hs97 : w96.cell? ⟨gb351, 0, none⟩ = some (.int .u32 0) := (blk_cell BK351.out 0).trans rfl
        have hfs97 := blk_frozen BK351.out 0
        have hns97_0 := NB197_351.out
        have hns97_1 := NB209_351.out
        have hns97_2 := NB219_351.out
        have hns97_3 := NB298_351.out
        have hns97_4 := NB315_351.out
        have hns97_5 := NB325_351.out
        have hms97_0 := NB351_197.out
        have hms97_1 := NB351_209.out
        have hms97_2 := NB351_219.out
        have hms97_3 := NB351_298.out
        have hms97_4 := NB351_315.out
        have hms97_5 := NB351_325.out
        have hs98 : w96.cell? ⟨gb351, 1, none⟩ = some (.int .u32 0) := (blk_cell BK351.out 1).trans rfl
        have hfs98 := blk_frozen BK351.out 1
        have hns98_0 := NB197_351.out
        have hns98_1 := NB209_351.out
        have hns98_2 := NB219_351.out
        have hns98_3 := NB298_351.out
        have hns98_4 := NB315_351.out
        have hns98_5 := NB325_351.out
        have hms98_0 := NB351_197.out
        have hms98_1 := NB351_209.out
        have hms98_2 := NB351_219.out
        have hms98_3 := NB351_298.out
        have hms98_4 := NB351_315.out
        have hms98_5 := NB351_325.out
        have hs99 : w96.cell? ⟨gb351, 2, none⟩ = some (.int .u32 0) := (blk_cell BK351.out 2).trans rfl
        have hfs99 := blk_frozen BK351.out 2
        have hns99_0 := NB197_351.out
        have hns99_1 := NB209_351.out
        have hns99_2 := NB219_351.out
        have hns99_3 := NB298_351.out
        have hns99_4 := NB315_351.out
        have hns99_5 := NB325_351.out
        have hms99_0 := NB351_197.out
        have hms99_1 := NB351_209.out
        have hms99_2 := NB351_219.out
        have hms99_3 := NB351_298.out
        have hms99_4 := NB351_315.out
        have hms99_5 := NB351_325.out
        have hs100 : w96.cell? ⟨gb351, 3, none⟩ = some (.int .u32 0) := (blk_cell BK351.out 3).trans rfl
        have hfs100 := blk_frozen BK351.out 3
        have hns100_0 := NB197_351.out
        have hns100_1 := NB209_351.out
        have hns100_2 := NB219_351.out
        have hns100_3 := NB298_351.out
        have hns100_4 := NB315_351.out
        have hns100_5 := NB325_351.out
        have hms100_0 := NB351_197.out
        have hms100_1 := NB351_209.out
        have hms100_2 := NB351_219.out
        have hms100_3 := NB351_298.out
        have hms100_4 := NB351_315.out
        have hms100_5 := NB351_325.out
        have hs101 : w96.cell? ⟨gb351, 4, none⟩ = some (.int .u32 0) := (blk_cell BK351.out 4).trans rfl
        have hfs101 := blk_frozen BK351.out 4
        have hns101_0 := NB197_351.out
        have hns101_1 := NB209_351.out
        have hns101_2 := NB219_351.out
        have hns101_3 := NB298_351.out
        have hns101_4 := NB315_351.out
        have hns101_5 := NB325_351.out
        have hms101_0 := NB351_197.out
        have hms101_1 := NB351_209.out
        have hms101_2 := NB351_219.out
        have hms101_3 := NB351_298.out
        have hms101_4 := NB351_315.out
        have hms101_5 := NB351_325.out
        have hs102 : w96.cell? ⟨gb351, 5, none⟩ = some (.int .u32 0) := (blk_cell BK351.out 5).trans rfl
        have hfs102 := blk_frozen BK351.out 5
        have hns102_0 := NB197_351.out
        have hns102_1 := NB209_351.out
        have hns102_2 := NB219_351.out
        have hns102_3 := NB298_351.out
        have hns102_4 := NB315_351.out
        have hns102_5 := NB325_351.out
        have hms102_0 := NB351_197.out
        have hms102_1 := NB351_209.out
        have hms102_2 := NB351_219.out
        have hms102_3 := NB351_298.out
        have hms102_4 := NB351_315.out
        have hms102_5 := NB351_325.out
        have hs103 : w96.cell? ⟨gb351, 6, none⟩ = some (.int .u32 0) := (blk_cell BK351.out 6).trans rfl
        have hfs103 := blk_frozen BK351.out 6
        have hns103_0 := NB197_351.out
        have hns103_1 := NB209_351.out
        have hns103_2 := NB219_351.out
        have hns103_3 := NB298_351.out
        have hns103_4 := NB315_351.out
        have hns103_5 := NB325_351.out
        have hms103_0 := NB351_197.out
        have hms103_1 := NB351_209.out
        have hms103_2 := NB351_219.out
        have hms103_3 := NB351_298.out
        have hms103_4 := NB351_315.out
        have hms103_5 := NB351_325.out
        have hs104 : w96.cell? ⟨gb351, 7, none⟩ = some (.int .u32 0) := (blk_cell BK351.out 7).trans rfl
        have hfs104 := blk_frozen BK351.out 7
        have hns104_0 := NB197_351.out
        have hns104_1 := NB209_351.out
        have hns104_2 := NB219_351.out
        have hns104_3 := NB298_351.out
        have hns104_4 := NB315_351.out
        have hns104_5 := NB325_351.out
        have hms104_0 := NB351_197.out
        have hms104_1 := NB351_209.out
        have hms104_2 := NB351_219.out
        have hms104_3 := NB351_298.out
        have hms104_4 := NB351_315.out
        have hms104_5 := NB351_325.out
        refine skip_ (w1 := ?_) (by rfl) rfl ?_ ?_
        rotate_left
        ·
         go_simp
         rfl
        refine hK.out _ _ ⟨((cell_far (p := ⟨gb351, _, none⟩) NB315_351.out _).trans (((cell_far (p := ⟨gb351, _, none⟩) NB315_351.out _).trans (((cell_far (p := ⟨gb351, _, none⟩) NB315_351.out _).trans (((cell_far (p := ⟨gb351, _, none⟩) NB315_351.out _).trans (((cell_far (p := ⟨gb351, _, none⟩) NB315_351.out _).trans (((cell_far (p := ⟨gb351, _, none⟩) NB315_351.out _).trans (((cell_far (p := ⟨gb351, _, none⟩) NB315_351.out _).trans (((cell_far (p := ⟨gb351, _, none⟩) NB315_351.out _).trans (hHeld.1)))))))))))))))), ((cell_far (p := ⟨gb351, _, none⟩) NB315_351.out _).trans (((cell_far (p := ⟨gb351, _, none⟩) NB315_351.out _).trans (((cell_far (p := ⟨gb351, _, none⟩) NB315_351.out _).trans (((cell_far (p := ⟨gb351, _, none⟩) NB315_351.out _).trans (((cell_far (p := ⟨gb351, _, none⟩) NB315_351.out _).trans (((cell_far (p := ⟨gb351, _, none⟩) NB315_351.out _).trans (((cell_far (p := ⟨gb351, _, none⟩) NB315_351.out _).trans (((cell_far (p := ⟨gb351, _, none⟩) NB315_351.out _).trans (hHeld.2.1)))))))))))))))), ((cell_far (p := ⟨gb351, _, none⟩) NB315_351.out _).trans (((cell_far (p := ⟨gb351, _, none⟩) NB315_351.out _).trans (((cell_far (p := ⟨gb351, _, none⟩) NB315_351.out _).trans (((cell_far (p := ⟨gb351, _, none⟩) NB315_351.out _).trans (((cell_far (p := ⟨gb351, _, none⟩) NB315_351.out _).trans (((cell_far (p := ⟨gb351, _, none⟩) NB315_351.out _).trans (((cell_far (p := ⟨gb351, _, none⟩) NB315_351.out _).trans (((cell_far (p := ⟨gb351, _, none⟩) NB315_351.out _).trans (hHeld.2.2.1)))))))))))))))), ((cell_far (p := ⟨gb351, _, none⟩) NB315_351.out _).trans (((cell_far (p := ⟨gb351, _, none⟩) NB315_351.out _).trans (((cell_far (p := ⟨gb351, _, none⟩) NB315_351.out _).trans (((cell_far (p := ⟨gb351, _, none⟩) NB315_351.out _).trans (((cell_far (p := ⟨gb351, _, none⟩) NB315_351.out _).trans (((cell_far (p := ⟨gb351, _, none⟩) NB315_351.out _).trans (((cell_far (p := ⟨gb351, _, none⟩) NB315_351.out _).trans (((cell_far (p := ⟨gb351, _, none⟩) NB315_351.out _).trans (hHeld.2.2.2.1)))))))))))))))), ((cell_far (p := ⟨gb351, _, none⟩) NB315_351.out _).trans (((cell_far (p := ⟨gb351, _, none⟩) NB315_351.out _).trans (((cell_far (p := ⟨gb351, _, none⟩) NB315_351.out _).trans (((cell_far (p := ⟨gb351, _, none⟩) NB315_351.out _).trans (((cell_far (p := ⟨gb351, _, none⟩) NB315_351.out _).trans (((cell_far (p := ⟨gb351, _, none⟩) NB315_351.out _).trans (((cell_far (p := ⟨gb351, _, none⟩) NB315_351.out _).trans (((cell_far (p := ⟨gb351, _, none⟩) NB315_351.out _).trans (hHeld.2.2.2.2.1)))))))))))))))), ((cell_far (p := ⟨gb351, _, none⟩) NB315_351.out _).trans (((cell_far (p := ⟨gb351, _, none⟩) NB315_351.out _).trans (((cell_far (p := ⟨gb351, _, none⟩) NB315_351.out _).trans (((cell_far (p := ⟨gb351, _, none⟩) NB315_351.out _).trans (((cell_far (p := ⟨gb351, _, none⟩) NB315_351.out _).trans (((cell_far (p := ⟨gb351, _, none⟩) NB315_351.out _).trans (((cell_far (p := ⟨gb351, _, none⟩) NB315_351.out _).trans (((cell_far (p := ⟨gb351, _, none⟩) NB315_351.out _).trans (hHeld.2.2.2.2.2.1)))))))))))))))), ((cell_far (p := ⟨gb351, _, none⟩) NB315_351.out _).trans (((cell_far (p := ⟨gb351, _, none⟩) NB315_351.out _).trans (((cell_far (p := ⟨gb351, _, none⟩) NB315_351.out _).trans (((cell_far (p := ⟨gb351, _, none⟩) NB315_351.out _).trans (((cell_far (p := ⟨gb351, _, none⟩) NB315_351.out _).trans (((cell_far (p := ⟨gb351, _, none⟩) NB315_351.out _).trans (((cell_far (p := ⟨gb351, _, none⟩) NB315_351.out _).trans (((cell_far (p := ⟨gb351, _, none⟩) NB315_351.out _).trans (hHeld.2.2.2.2.2.2.1)))))))))))))))), ((cell_far (p := ⟨gb351, _, none⟩) NB315_351.out _).trans (((cell_far (p := ⟨gb351, _, none⟩) NB315_351.out _).trans (((cell_far (p := ⟨gb351, _, none⟩) NB315_351.out _).trans (((cell_far (p := ⟨gb351, _, none⟩) NB315_351.out _).trans (((cell_far (p := ⟨gb351, _, none⟩) NB315_351.out _).trans (((cell_far (p := ⟨gb351, _, none⟩) NB315_351.out _).trans (((cell_far (p := ⟨gb351, _, none⟩) NB315_351.out _).trans (((cell_far (p := ⟨gb351, _, none⟩) NB315_351.out _).trans (hHeld.2.2.2.2.2.2.2.1)))))))))))))))), ((cell_far (p := ⟨gb351, _, none⟩) NB209_351.out _).trans (((cell_far (p := ⟨gb351, _, none⟩) NB209_351.out _).trans (((cell_far (p := ⟨gb351, _, none⟩) NB209_351.out _).trans (((cell_far (p := ⟨gb351, _, none⟩) NB209_351.out _).trans (((cell_far (p := ⟨gb351, _, none⟩) NB209_351.out _).trans (((cell_far (p := ⟨gb351, _, none⟩) NB209_351.out _).trans (((cell_far (p := ⟨gb351, _, none⟩) NB209_351.out _).trans (((cell_far (p := ⟨gb351, _, none⟩) NB209_351.out _).trans (hHeld.2.2.2.2.2.2.2.2.1)))))))))))))))), ((cell_far (p := ⟨gb351, _, none⟩) NB209_351.out _).trans (((cell_far (p := ⟨gb351, _, none⟩) NB209_351.out _).trans (((cell_far (p := ⟨gb351, _, none⟩) NB209_351.out _).trans (((cell_far (p := ⟨gb351, _, none⟩) NB209_351.out _).trans (((cell_far (p := ⟨gb351, _, none⟩) NB209_351.out _).trans (((cell_far (p := ⟨gb351, _, none⟩) NB209_351.out _).trans (((cell_far (p := ⟨gb351, _, none⟩) NB209_351.out _).trans (((cell_far (p := ⟨gb351, _, none⟩) NB209_351.out _).trans (hHeld.2.2.2.2.2.2.2.2.2.1)))))))))))))))), ((cell_far (p := ⟨gb351, _, none⟩) NB209_351.out _).trans (((cell_far (p := ⟨gb351, _, none⟩) NB209_351.out _).trans (((cell_far (p := ⟨gb351, _, none⟩) NB209_351.out _).trans (((cell_far (p := ⟨gb351, _, none⟩) NB209_351.out _).trans (((cell_far (p := ⟨gb351, _, none⟩) NB209_351.out _).trans (((cell_far (p := ⟨gb351, _, none⟩) NB209_351.out _).trans (((cell_far (p := ⟨gb351, _, none⟩) NB209_351.out _).trans (((cell_far (p := ⟨gb351, _, none⟩) NB209_351.out _).trans (hHeld.2.2.2.2.2.2.2.2.2.2.1)))))))))))))))), ((cell_far (p := ⟨gb351, _, none⟩) NB209_351.out _).trans (((cell_far (p := ⟨gb351, _, none⟩) NB209_351.out _).trans (((cell_far (p := ⟨gb351, _, none⟩) NB209_351.out _).trans (((cell_far (p := ⟨gb351, _, none⟩) NB209_351.out _).trans (((cell_far (p := ⟨gb351, _, none⟩) NB209_351.out _).trans (((cell_far (p := ⟨gb351, _, none⟩) NB209_351.out _).trans (((cell_far (p := ⟨gb351, _, none⟩) NB209_351.out _).trans (((cell_far (p := ⟨gb351, _, none⟩) NB209_351.out _).trans (hHeld.2.2.2.2.2.2.2.2.2.2.2.1)))))))))))))))), ((cell_far (p := ⟨gb351, _, none⟩) NB209_351.out _).trans (((cell_far (p := ⟨gb351, _, none⟩) NB209_351.out _).trans (((cell_far (p := ⟨gb351, _, none⟩) NB209_351.out _).trans (((cell_far (p := ⟨gb351, _, none⟩) NB209_351.out _).trans (((cell_far (p := ⟨gb351, _, none⟩) NB209_351.out _).trans (((cell_far (p := ⟨gb351, _, none⟩) NB209_351.out _).trans (((cell_far (p := ⟨gb351, _, none⟩) NB209_351.out _).trans (((cell_far (p := ⟨gb351, _, none⟩) NB209_351.out _).trans (hHeld.2.2.2.2.2.2.2.2.2.2.2.2.1)))))))))))))))), ((cell_far (p := ⟨gb351, _, none⟩) NB209_351.out _).trans (((cell_far (p := ⟨gb351, _, none⟩) NB209_351.out _).trans (((cell_far (p := ⟨gb351, _, none⟩) NB209_351.out _).trans (((cell_far (p := ⟨gb351, _, none⟩) NB209_351.out _).trans (((cell_far (p := ⟨gb351, _, none⟩) NB209_351.out _).trans (((cell_far (p := ⟨gb351, _, none⟩) NB209_351.out _).trans (((cell_far (p := ⟨gb351, _, none⟩) NB209_351.out _).trans (((cell_far (p := ⟨gb351, _, none⟩) NB209_351.out _).trans (hHeld.2.2.2.2.2.2.2.2.2.2.2.2.2.1)))))))))))))))), ((cell_far (p := ⟨gb351, _, none⟩) NB209_351.out _).trans (((cell_far (p := ⟨gb351, _, none⟩) NB209_351.out _).trans (((cell_far (p := ⟨gb351, _, none⟩) NB209_351.out _).trans (((cell_far (p := ⟨gb351, _, none⟩) NB209_351.out _).trans (((cell_far (p := ⟨gb351, _, none⟩) NB209_351.out _).trans (((cell_far (p := ⟨gb351, _, none⟩) NB209_351.out _).trans (((cell_far (p := ⟨gb351, _, none⟩) NB209_351.out _).trans (((cell_far (p := ⟨gb351, _, none⟩) NB209_351.out _).trans (hHeld.2.2.2.2.2.2.2.2.2.2.2.2.2.2.1)))))))))))))))), ((cell_far (p := ⟨gb351, _, none⟩) NB209_351.out _).trans (((cell_far (p := ⟨gb351, _, none⟩) NB209_351.out _).trans (((cell_far (p := ⟨gb351, _, none⟩) NB209_351.out _).trans (((cell_far (p := ⟨gb351, _, none⟩) NB209_351.out _).trans (((cell_far (p := ⟨gb351, _, none⟩) NB209_351.out _).trans (((cell_far (p := ⟨gb351, _, none⟩) NB209_351.out _).trans (((cell_far (p := ⟨gb351, _, none⟩) NB209_351.out _).trans (((cell_far (p := ⟨gb351, _, none⟩) NB209_351.out _).trans (hHeld.2.2.2.2.2.2.2.2.2.2.2.2.2.2.2))))))))))))))))⟩ (fun hHeld => ?_)
        clear hK K
        refine pure_ (i := 10) (N := some 17) (v := ?_) (a' := ?_) #[T, T, T, T, T, T, T, T, T, T, T] rfl rfl (any_of HT_.out (by kernel_rfl)) (fun _ _ _ h => h) (Or.inl ⟨by rfl, ?_⟩) ?_ ?_
        rotate_left
        ·
         intro w'
         (try simp only [add_plain] at s0 s1 s2 s3 s4 s5 s6 s7 s8 s9 s10 s11 s12 s13 s14 s15)
         go_simp
         with_reducible rfl
        rotate_left
        ·
         simp only [Act.put, List.setIfInBounds_toArray, List.set_cons_zero, List.set_cons_succ, i64_w, i32_w]
         rfl
        refine done_ (done_of HT_.out (by kernel_rfl)) ?_
        try go_wp2_with (first | ((with_reducible refine gate_callee (f := 8) rfl ?_); refine goesL_ (some 124) rfl rfl Try.func8 (by kernel_rfl) rfl #[] rfl (by (try simp only [List.map_toArray, List.map_cons, List.map_nil]); first | done | rfl | (simp only [List.length_drop, List.length_take]; rfl)) ?_; (with_reducible refine (offertorylaw28_awake.calls kj14  true _ A47.out).mono ?_); rintro e w105 ⟨rfl, hb⟩; refine ⟨_, rfl, ?_⟩; have n0_ := Aside0.mk (blk_below (g := gb197) (o := .cells #[.slice A0_0 l0_0.length c0_0, .int .i64 a0_1, .int .u64 a0_2, .int .u64 a0_3, .int .u64 a0_4, .int .u64 a0_5, .bool a0_6] 36 (0, 0)) (by (repeat (first | (with_reducible first | refine blk_drewN ?_ _ | refine blk_drew ?_ | refine blk_alloc ?_ _) | refine blk_far ?_ NB197_351.out _)); (with_reducible repeat (first | refine blk_drewN ?_ _ | refine blk_drew ?_ | refine blk_alloc ?_ _)); exact BK197.out) hb); have n1_ := Aside0.mk (blk_below (g := gb209) (o := .cells #[.int .u32 t201, .int .u32 t202, .int .u32 t203, .int .u32 t204, .int .u32 t205, .int .u32 t206, .int .u32 t207, .int .u32 t208] 41 (0, 0)) (by (repeat (first | (with_reducible first | refine blk_drewN ?_ _ | refine blk_drew ?_ | refine blk_alloc ?_ _) | refine blk_far ?_ NB209_351.out _)); (with_reducible repeat (first | refine blk_drewN ?_ _ | refine blk_drew ?_ | refine blk_alloc ?_ _)); exact BK209.out) hb); have n2_ := Aside0.mk (blk_below (g := gb219) (o := .cells #[.int .u32 x220000_14, .int .u32 x220001_14, .int .u32 x220002_14, .int .u32 x220003_14, .int .u32 x220004_14, .int .u32 x220005_14, .int .u32 x220006_14, .int .u32 x220007_14] 41 (0, 0)) (by (repeat (first | (with_reducible first | refine blk_drewN ?_ _ | refine blk_drew ?_ | refine blk_alloc ?_ _) | refine blk_far ?_ NB219_351.out _)); (with_reducible repeat (first | refine blk_drewN ?_ _ | refine blk_drew ?_ | refine blk_alloc ?_ _)); exact BK219.out) hb); have n3_ := Aside0.mk (blk_below (g := gb298) (o := .cells #[.int .u32 t290, .int .u32 t291, .int .u32 t292, .int .u32 t293, .int .u32 t294, .int .u32 t295, .int .u32 t296, .int .u32 t297] 41 (0, 0)) (by (repeat (first | (with_reducible first | refine blk_drewN ?_ _ | refine blk_drew ?_ | refine blk_alloc ?_ _) | refine blk_far ?_ NB298_351.out _)); (with_reducible repeat (first | refine blk_drewN ?_ _ | refine blk_drew ?_ | refine blk_alloc ?_ _)); exact BK298.out) hb); have n4_ := Aside0.mk (blk_below (g := gb315) (o := .cells #[.int .u32 t307, .int .u32 t308, .int .u32 t309, .int .u32 t310, .int .u32 t311, .int .u32 t312, .int .u32 t313, .int .u32 t314] 41 (0, 0)) (by (repeat (first | (with_reducible first | refine blk_drewN ?_ _ | refine blk_drew ?_ | refine blk_alloc ?_ _) | refine blk_far ?_ NB315_351.out _)); (with_reducible repeat (first | refine blk_drewN ?_ _ | refine blk_drew ?_ | refine blk_alloc ?_ _)); exact BK315.out) hb); have n5_ := Aside0.mk (blk_below (g := gb325) (o := .cells #[.int .u32 t316, .int .u32 t317, .int .u32 t318, .int .u32 t319, .int .u32 t320, .int .u32 t321, .int .u32 t322, .int .u32 t323] 41 (0, 0)) (by (repeat (first | (with_reducible first | refine blk_drewN ?_ _ | refine blk_drew ?_ | refine blk_alloc ?_ _) | refine blk_far ?_ NB325_351.out _)); (with_reducible repeat (first | refine blk_drewN ?_ _ | refine blk_drew ?_ | refine blk_alloc ?_ _)); exact BK325.out) hb); have n6_ := Aside0.mk (blk_below (g := gb351) (o := .cells #[.int .u32 t342, .int .u32 t343, .int .u32 t344, .int .u32 t345, .int .u32 t346, .int .u32 t347, .int .u32 t348, .int .u32 t349] 41 (0, 0)) (by (with_reducible repeat (first | refine blk_drewN ?_ _ | refine blk_drew ?_ | refine blk_alloc ?_ _)); refine blk_put (cs := #[.int .u32 t342, .int .u32 t343, .int .u32 t344, .int .u32 t345, .int .u32 t346, .int .u32 t347, .int .u32 t348, .int .u32 0]) ?_ 7 _ rfl; (with_reducible repeat (first | refine blk_drewN ?_ _ | refine blk_drew ?_ | refine blk_alloc ?_ _)); refine blk_put (cs := #[.int .u32 t342, .int .u32 t343, .int .u32 t344, .int .u32 t345, .int .u32 t346, .int .u32 t347, .int .u32 0, .int .u32 0]) ?_ 6 _ rfl; (with_reducible repeat (first | refine blk_drewN ?_ _ | refine blk_drew ?_ | refine blk_alloc ?_ _)); refine blk_put (cs := #[.int .u32 t342, .int .u32 t343, .int .u32 t344, .int .u32 t345, .int .u32 t346, .int .u32 0, .int .u32 0, .int .u32 0]) ?_ 5 _ rfl; (with_reducible repeat (first | refine blk_drewN ?_ _ | refine blk_drew ?_ | refine blk_alloc ?_ _)); refine blk_put (cs := #[.int .u32 t342, .int .u32 t343, .int .u32 t344, .int .u32 t345, .int .u32 0, .int .u32 0, .int .u32 0, .int .u32 0]) ?_ 4 _ rfl; (with_reducible repeat (first | refine blk_drewN ?_ _ | refine blk_drew ?_ | refine blk_alloc ?_ _)); refine blk_put (cs := #[.int .u32 t342, .int .u32 t343, .int .u32 t344, .int .u32 0, .int .u32 0, .int .u32 0, .int .u32 0, .int .u32 0]) ?_ 3 _ rfl; (with_reducible repeat (first | refine blk_drewN ?_ _ | refine blk_drew ?_ | refine blk_alloc ?_ _)); refine blk_put (cs := #[.int .u32 t342, .int .u32 t343, .int .u32 0, .int .u32 0, .int .u32 0, .int .u32 0, .int .u32 0, .int .u32 0]) ?_ 2 _ rfl; (with_reducible repeat (first | refine blk_drewN ?_ _ | refine blk_drew ?_ | refine blk_alloc ?_ _)); refine blk_put (cs := #[.int .u32 t342, .int .u32 0, .int .u32 0, .int .u32 0, .int .u32 0, .int .u32 0, .int .u32 0, .int .u32 0]) ?_ 1 _ rfl; (with_reducible repeat (first | refine blk_drewN ?_ _ | refine blk_drew ?_ | refine blk_alloc ?_ _)); refine blk_put (cs := #[.int .u32 0, .int .u32 0, .int .u32 0, .int .u32 0, .int .u32 0, .int .u32 0, .int .u32 0, .int .u32 0]) ?_ 0 _ rfl; (with_reducible repeat (first | refine blk_drewN ?_ _ | refine blk_drew ?_ | refine blk_alloc ?_ _)); exact BK351.out) hb); have n7_ := Aside0.mk (below_step (by repeat (first | (with_reducible first | exact HB.out | apply below_alloc | apply pw_below_drewN | apply below_drew1 | refine below_set ?_ GE197.out | refine below_set ?_ GE209.out | refine below_set ?_ GE219.out | refine below_set ?_ GE298.out | refine below_set ?_ GE315.out | refine below_set ?_ GE325.out | refine below_set ?_ GE351.out) | exact HB.out)) hb); clear BK197; clear BK209; clear BK219; clear BK298; clear BK315; clear BK325; clear BK351; clear HB; have BK197 := n0_; have BK209 := n1_; have BK219 := n2_; have BK298 := n3_; have BK315 := n4_; have BK325 := n5_; have BK351 := n6_; have HB := n7_; clear n0_ n1_ n2_ n3_ n4_ n5_ n6_ n7_; (try clear hb); (try clear hb2); (try clear hk); (try clear hi)))
        go_ret
        exact ⟨by first | rfl | (simp [errW_none, errW_some] <;> rfl) | (simp [*, errW_none, errW_some] <;> rfl), by repeat (first | (with_reducible first | exact HB.out | apply below_alloc | apply pw_below_drewN | apply below_drew1 | refine below_set ?_ GE197.out | refine below_set ?_ GE209.out | refine below_set ?_ GE219.out | refine below_set ?_ GE298.out | refine below_set ?_ GE315.out | refine below_set ?_ GE325.out | refine below_set ?_ GE351.out) | exact HB.out)⟩
      ·
       replace c48 := Bool.eq_false_iff.mpr c48
       subst c48
       have H1 : (none) = some r := by rw [if_neg (show ¬ (false = true) by decide)] at H; exact H
       clear H
       have H := H1
       clear H1
       exact absurd H (by simp)
     ·
      rw [if_neg c38] at H
      exact absurd H (by simp)
  ·
   rw [if_neg c13] at H
   have c13b0 : ((a0_2 / 4611686018427387904) == 0) = false := beq_eq_false_iff_ne.mpr c13
   have c13b1 : ((a0_2 / 4611686018427387904) != 0) = true := bne_iff_ne.mpr c13
   replace H := Option.bind_eq_some_iff.mp H
   obtain ⟨t210, A1060, H⟩ := H
   (try dsimp only at H)
   have A106 := Aside0.mk A1060
   clear A1060
   by_cases c107 : t210 = true
   ·
    subst c107
    have H1 : (if t199 = 4 then (some (t198 == 0)) else (none)) = some r := by rw [if_pos rfl] at H; exact H
    clear H
    have H := H1
    clear H1
    by_cases c108 : t199 = 4
    ·
     rw [if_pos c108] at H
     have c108b0 : (t199 == 4) = true := beq_iff_eq.mpr c108
     have c108b1 : (t199 != 4) = false := bne_eq_false_iff_eq.mpr c108
     clear c108
     obtain rfl := Option.some.inj H
     go_enter Try.func4, Try.ntmps4
     go_wp2_with (first | ((with_reducible refine gate_dst (N := 1) rfl ?_); refine box_event ?hg (N := 1) ?hd (cs := #[.slice A0_0 l0_0.length c0_0, .int .i64 a0_1, .int .u64 a0_2, .int .u64 a0_3, .int .u64 a0_4, .int .u64 a0_5, .bool a0_6]) (t := 36) ?hr ?_; (case hd => rfl); (case hg => rfl); (case hr => first | (go_simp; done) | (go_simp; rfl)); intro gb197 hg w109 hbox hb; have n0_ := Aside0.mk (below_step (by repeat (first | (with_reducible first | exact HB.out | apply below_alloc | apply pw_below_drewN | apply below_drew1) | exact HB.out)) hb); have n1_ := Aside0.mk (hbox); have n2_ := Aside0.mk ((by rw [hg]; exact (below_size (by repeat (first | (with_reducible first | exact HB.out | apply below_alloc | apply pw_below_drewN | apply below_drew1) | exact HB.out))) : w.heap.size ≤ gb197)); have n3_ := Aside0.mk ((by rw [hg]; exact (below_size (by repeat (first | (with_reducible first | exact HB.out | apply below_alloc | apply pw_below_drewN | apply below_drew1) | exact HB.out))) : w.heap.size ≤ gb197)); clear HB; have HB := n0_; have BK197 := n1_; have GW197 := n2_; have GE197 := n3_; clear n0_ n1_ n2_ n3_; clear hb hbox hg; have hcz110_0 : w109.cell? ⟨gb197, 0, none⟩ = some (.slice A0_0 l0_0.length c0_0) := (blk_cell BK197.out 0).trans rfl; have hcz110_1 : w109.cell? ⟨gb197, 1, none⟩ = some (.int .i64 a0_1) := (blk_cell BK197.out 1).trans rfl; have hcz110_2 : w109.cell? ⟨gb197, 2, none⟩ = some (.int .u64 a0_2) := (blk_cell BK197.out 2).trans rfl; have hcz110_3 : w109.cell? ⟨gb197, 3, none⟩ = some (.int .u64 a0_3) := (blk_cell BK197.out 3).trans rfl; have hcz110_4 : w109.cell? ⟨gb197, 4, none⟩ = some (.int .u64 a0_4) := (blk_cell BK197.out 4).trans rfl; have hcz110_5 : w109.cell? ⟨gb197, 5, none⟩ = some (.int .u64 a0_5) := (blk_cell BK197.out 5).trans rfl; have hcz110_6 : w109.cell? ⟨gb197, 6, none⟩ = some (.bool a0_6) := (blk_cell BK197.out 6).trans rfl; have hfz110_0 := blk_frozen BK197.out 0; have hfz110_1 := blk_frozen BK197.out 1; have hfz110_2 := blk_frozen BK197.out 2; have hfz110_3 := blk_frozen BK197.out 3; have hfz110_4 := blk_frozen BK197.out 4; have hfz110_5 := blk_frozen BK197.out 5; have hfz110_6 := blk_frozen BK197.out 6) | ((with_reducible refine gate_callee (f := 10) rfl ?_); refine goesL_ (some 20) rfl rfl Try.func10 (by kernel_rfl) rfl #[.agg #[.slice A0_0 l0_0.length c0_0, .int .i64 a0_1, .int .u64 a0_2, .int .u64 a0_3, .int .u64 a0_4, .int .u64 a0_5, .bool a0_6]] rfl (by (try simp only [List.map_toArray, List.map_cons, List.map_nil]); first | done | rfl | (simp only [List.length_drop, List.length_take]; rfl)) ?_; (with_reducible refine (rank_Mean.calls k _ _ l0_0 a0_1 a0_2 a0_3 a0_4 a0_5 a0_6 t198 t199 _ ?side1 ?side2 A2.out).mono ?_); (case side1 => repeat (first | exact (Kd.C_below HR0_0.out HB.out) | (with_reducible refine Kd.C_alloc ?_ _) | (with_reducible refine Kd.C_drewN ?_ _) | (with_reducible refine Kd.C_drew ?_))); (case side2 => exact HC0_0.out); rintro e w111 ⟨rfl, hb⟩; refine ⟨_, rfl, ?_⟩; have n0_ := law4A.keepB BK197 hb; have n1_ := Aside0.mk (below_step (by repeat (first | (with_reducible first | exact HB.out | apply below_alloc | apply pw_below_drewN | apply below_drew1 | refine below_set ?_ GE197.out) | exact HB.out)) hb); clear BK197; clear HB; have BK197 := n0_; have HB := n1_; clear n0_ n1_; (try clear hb); (try clear hb2); (try clear hk); (try clear hi); have hcz112_0 : w111.cell? ⟨gb197, 0, none⟩ = some (.slice A0_0 l0_0.length c0_0) := (blk_cell BK197.out 0).trans rfl; have hcz112_1 : w111.cell? ⟨gb197, 1, none⟩ = some (.int .i64 a0_1) := (blk_cell BK197.out 1).trans rfl; have hcz112_2 : w111.cell? ⟨gb197, 2, none⟩ = some (.int .u64 a0_2) := (blk_cell BK197.out 2).trans rfl; have hcz112_3 : w111.cell? ⟨gb197, 3, none⟩ = some (.int .u64 a0_3) := (blk_cell BK197.out 3).trans rfl; have hcz112_4 : w111.cell? ⟨gb197, 4, none⟩ = some (.int .u64 a0_4) := (blk_cell BK197.out 4).trans rfl; have hcz112_5 : w111.cell? ⟨gb197, 5, none⟩ = some (.int .u64 a0_5) := (blk_cell BK197.out 5).trans rfl; have hcz112_6 : w111.cell? ⟨gb197, 6, none⟩ = some (.bool a0_6) := (blk_cell BK197.out 6).trans rfl; have hfz112_0 := blk_frozen BK197.out 0; have hfz112_1 := blk_frozen BK197.out 1; have hfz112_2 := blk_frozen BK197.out 2; have hfz112_3 := blk_frozen BK197.out 3; have hfz112_4 := blk_frozen BK197.out 4; have hfz112_5 := blk_frozen BK197.out 5; have hfz112_6 := blk_frozen BK197.out 6) | ((with_reducible refine gate_callee (f := 11) rfl ?_); refine goesL_ (some 37) rfl rfl Try.func11 (by kernel_rfl) rfl #[.int .i64 a0_1] rfl (by (try simp only [List.map_toArray, List.map_cons, List.map_nil]); first | done | rfl | (simp only [List.length_drop, List.length_take]; rfl)) ?_; (with_reducible refine (offertoryref09_Int.calls a0_1 t201 t202 t203 t204 t205 t206 t207 t208 _ A12.out).mono ?_); rintro e w113 ⟨rfl, hb⟩; refine ⟨_, rfl, ?_⟩; have n0_ := law4A.keepB BK197 hb; have n1_ := Aside0.mk (below_step (by repeat (first | (with_reducible first | exact HB.out | apply below_alloc | apply pw_below_drewN | apply below_drew1 | refine below_set ?_ GE197.out) | exact HB.out)) hb); clear BK197; clear HB; have BK197 := n0_; have HB := n1_; clear n0_ n1_; (try clear hb); (try clear hb2); (try clear hk); (try clear hi)) | ((with_reducible refine gate_dst (N := 5) rfl ?_); refine box_event ?hg (N := 5) ?hd (cs := #[.int .u32 0, .int .u32 0, .int .u32 0, .int .u32 0, .int .u32 0, .int .u32 0, .int .u32 0, .int .u32 0]) (t := 41) ?hr ?_; (case hd => rfl); (case hg => rfl); (case hr => first | (go_simp; done) | (go_simp; rfl)); intro gb209 hg w114 hbox hb; have n0_ := law4A.keepB BK197 hb; have n1_ := Aside0.mk (below_step (by repeat (first | (with_reducible first | exact HB.out | apply below_alloc | apply pw_below_drewN | apply below_drew1 | refine below_set ?_ GE197.out) | exact HB.out)) hb); have n2_ := Aside0.mk (hbox); have n3_ := Aside0.mk ((by rw [hg]; exact (below_size (by repeat (first | (with_reducible first | exact HB.out | apply below_alloc | apply pw_below_drewN | apply below_drew1 | refine below_set ?_ GE197.out) | exact HB.out))) : w.heap.size ≤ gb209)); have n4_ := Aside0.mk ((by rw [hg]; exact (below_size (by repeat (first | (with_reducible first | exact HB.out | apply below_alloc | apply pw_below_drewN | apply below_drew1 | refine below_set ?_ GE197.out) | exact HB.out))) : w.heap.size ≤ gb209)); have n5_ := law4A.neL BK197 hg; have n6_ := law4A.neG BK197 hg; clear BK197; clear HB; have BK197 := n0_; have HB := n1_; have BK209 := n2_; have GW209 := n3_; have GE209 := n4_; have NB197_209 := n5_; have NB209_197 := n6_; clear n0_ n1_ n2_ n3_ n4_ n5_ n6_; clear hb hbox hg; have hnb115 := NB209_197.out; have hnc115 := NB197_209.out; have hcz116_0 : w114.cell? ⟨gb209, 0, none⟩ = some (.int .u32 0) := (blk_cell BK209.out 0).trans rfl; have hcz116_1 : w114.cell? ⟨gb209, 1, none⟩ = some (.int .u32 0) := (blk_cell BK209.out 1).trans rfl; have hcz116_2 : w114.cell? ⟨gb209, 2, none⟩ = some (.int .u32 0) := (blk_cell BK209.out 2).trans rfl; have hcz116_3 : w114.cell? ⟨gb209, 3, none⟩ = some (.int .u32 0) := (blk_cell BK209.out 3).trans rfl; have hcz116_4 : w114.cell? ⟨gb209, 4, none⟩ = some (.int .u32 0) := (blk_cell BK209.out 4).trans rfl; have hcz116_5 : w114.cell? ⟨gb209, 5, none⟩ = some (.int .u32 0) := (blk_cell BK209.out 5).trans rfl; have hcz116_6 : w114.cell? ⟨gb209, 6, none⟩ = some (.int .u32 0) := (blk_cell BK209.out 6).trans rfl; have hcz116_7 : w114.cell? ⟨gb209, 7, none⟩ = some (.int .u32 0) := (blk_cell BK209.out 7).trans rfl; have hfz116_0 := blk_frozen BK209.out 0; have hfz116_1 := blk_frozen BK209.out 1; have hfz116_2 := blk_frozen BK209.out 2; have hfz116_3 := blk_frozen BK209.out 3; have hfz116_4 := blk_frozen BK209.out 4; have hfz116_5 := blk_frozen BK209.out 5; have hfz116_6 := blk_frozen BK209.out 6; have hfz116_7 := blk_frozen BK209.out 7; have hcz117_0 : w114.cell? ⟨gb197, 0, none⟩ = some (.slice A0_0 l0_0.length c0_0) := (blk_cell BK197.out 0).trans rfl; have hcz117_1 : w114.cell? ⟨gb197, 1, none⟩ = some (.int .i64 a0_1) := (blk_cell BK197.out 1).trans rfl; have hcz117_2 : w114.cell? ⟨gb197, 2, none⟩ = some (.int .u64 a0_2) := (blk_cell BK197.out 2).trans rfl; have hcz117_3 : w114.cell? ⟨gb197, 3, none⟩ = some (.int .u64 a0_3) := (blk_cell BK197.out 3).trans rfl; have hcz117_4 : w114.cell? ⟨gb197, 4, none⟩ = some (.int .u64 a0_4) := (blk_cell BK197.out 4).trans rfl; have hcz117_5 : w114.cell? ⟨gb197, 5, none⟩ = some (.int .u64 a0_5) := (blk_cell BK197.out 5).trans rfl; have hcz117_6 : w114.cell? ⟨gb197, 6, none⟩ = some (.bool a0_6) := (blk_cell BK197.out 6).trans rfl; have hfz117_0 := blk_frozen BK197.out 0; have hfz117_1 := blk_frozen BK197.out 1; have hfz117_2 := blk_frozen BK197.out 2; have hfz117_3 := blk_frozen BK197.out 3; have hfz117_4 := blk_frozen BK197.out 4; have hfz117_5 := blk_frozen BK197.out 5; have hfz117_6 := blk_frozen BK197.out 6) | ((with_reducible refine gate_callee (f := 8) rfl ?_); refine goesL_ (some 43) rfl rfl Try.func8 (by kernel_rfl) rfl #[] rfl (by (try simp only [List.map_toArray, List.map_cons, List.map_nil]); first | done | rfl | (simp only [List.length_drop, List.length_take]; rfl)) ?_; (with_reducible refine (offertorylaw28_awake.calls k  true _ A106.out).mono ?_); rintro e w118 ⟨rfl, hb⟩; refine ⟨_, rfl, ?_⟩; have n0_ := Aside0.mk (blk_below (g := gb197) (o := .cells #[.slice A0_0 l0_0.length c0_0, .int .i64 a0_1, .int .u64 a0_2, .int .u64 a0_3, .int .u64 a0_4, .int .u64 a0_5, .bool a0_6] 36 (0, 0)) (by (repeat (first | (with_reducible first | refine blk_drewN ?_ _ | refine blk_drew ?_ | refine blk_alloc ?_ _) | refine blk_far ?_ NB197_209.out _)); (with_reducible repeat (first | refine blk_drewN ?_ _ | refine blk_drew ?_ | refine blk_alloc ?_ _)); exact BK197.out) hb); have n1_ := Aside0.mk (blk_below (g := gb209) (o := .cells #[.int .u32 t201, .int .u32 t202, .int .u32 t203, .int .u32 t204, .int .u32 t205, .int .u32 t206, .int .u32 t207, .int .u32 t208] 41 (0, 0)) (by (with_reducible repeat (first | refine blk_drewN ?_ _ | refine blk_drew ?_ | refine blk_alloc ?_ _)); refine blk_put (cs := #[.int .u32 t201, .int .u32 t202, .int .u32 t203, .int .u32 t204, .int .u32 t205, .int .u32 t206, .int .u32 t207, .int .u32 0]) ?_ 7 _ rfl; (with_reducible repeat (first | refine blk_drewN ?_ _ | refine blk_drew ?_ | refine blk_alloc ?_ _)); refine blk_put (cs := #[.int .u32 t201, .int .u32 t202, .int .u32 t203, .int .u32 t204, .int .u32 t205, .int .u32 t206, .int .u32 0, .int .u32 0]) ?_ 6 _ rfl; (with_reducible repeat (first | refine blk_drewN ?_ _ | refine blk_drew ?_ | refine blk_alloc ?_ _)); refine blk_put (cs := #[.int .u32 t201, .int .u32 t202, .int .u32 t203, .int .u32 t204, .int .u32 t205, .int .u32 0, .int .u32 0, .int .u32 0]) ?_ 5 _ rfl; (with_reducible repeat (first | refine blk_drewN ?_ _ | refine blk_drew ?_ | refine blk_alloc ?_ _)); refine blk_put (cs := #[.int .u32 t201, .int .u32 t202, .int .u32 t203, .int .u32 t204, .int .u32 0, .int .u32 0, .int .u32 0, .int .u32 0]) ?_ 4 _ rfl; (with_reducible repeat (first | refine blk_drewN ?_ _ | refine blk_drew ?_ | refine blk_alloc ?_ _)); refine blk_put (cs := #[.int .u32 t201, .int .u32 t202, .int .u32 t203, .int .u32 0, .int .u32 0, .int .u32 0, .int .u32 0, .int .u32 0]) ?_ 3 _ rfl; (with_reducible repeat (first | refine blk_drewN ?_ _ | refine blk_drew ?_ | refine blk_alloc ?_ _)); refine blk_put (cs := #[.int .u32 t201, .int .u32 t202, .int .u32 0, .int .u32 0, .int .u32 0, .int .u32 0, .int .u32 0, .int .u32 0]) ?_ 2 _ rfl; (with_reducible repeat (first | refine blk_drewN ?_ _ | refine blk_drew ?_ | refine blk_alloc ?_ _)); refine blk_put (cs := #[.int .u32 t201, .int .u32 0, .int .u32 0, .int .u32 0, .int .u32 0, .int .u32 0, .int .u32 0, .int .u32 0]) ?_ 1 _ rfl; (with_reducible repeat (first | refine blk_drewN ?_ _ | refine blk_drew ?_ | refine blk_alloc ?_ _)); refine blk_put (cs := #[.int .u32 0, .int .u32 0, .int .u32 0, .int .u32 0, .int .u32 0, .int .u32 0, .int .u32 0, .int .u32 0]) ?_ 0 _ rfl; (with_reducible repeat (first | refine blk_drewN ?_ _ | refine blk_drew ?_ | refine blk_alloc ?_ _)); exact BK209.out) hb); have n2_ := Aside0.mk (below_step (by repeat (first | (with_reducible first | exact HB.out | apply below_alloc | apply pw_below_drewN | apply below_drew1 | refine below_set ?_ GE197.out | refine below_set ?_ GE209.out) | exact HB.out)) hb); clear BK197; clear BK209; clear HB; have BK197 := n0_; have BK209 := n1_; have HB := n2_; clear n0_ n1_ n2_; (try clear hb); (try clear hb2); (try clear hk); (try clear hi)))
     go_ret
     exact ⟨by first | rfl | (simp [errW_none, errW_some] <;> rfl) | (simp [*, errW_none, errW_some] <;> rfl), by repeat (first | (with_reducible first | exact HB.out | apply below_alloc | apply pw_below_drewN | apply below_drew1 | refine below_set ?_ GE197.out | refine below_set ?_ GE209.out) | exact HB.out)⟩
    ·
     rw [if_neg c108] at H
     exact absurd H (by simp)
   ·
    replace c107 := Bool.eq_false_iff.mpr c107
    subst c107
    have H1 : (none) = some r := by rw [if_neg (show ¬ (false = true) by decide)] at H; exact H
    clear H
    have H := H1
    clear H1
    exact absurd H (by simp)

end Go.Proofs.Ythokkogdkpmdcaa.PAll
