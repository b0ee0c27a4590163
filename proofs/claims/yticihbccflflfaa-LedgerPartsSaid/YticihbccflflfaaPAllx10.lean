/- The Go functions that the laws reach, as Lean functions, and that each call comes to what its function says. Written by a program of this session (a turned copy of the kit's print). No condition beyond those that each theorem states. -/
import Derived.Test.YticihbccflflfaaPAllx0
import Derived.Test.YticihbccflflfaaPAllx7
import Derived.Test.YticihbccflflfaaPAllx8
import Derived.Test.YticihbccflflfaaPAllx9
namespace Go.Proofs.Yticihbccflflfaa.PAll
open Go.RowKit Go.Proofs.YticihbccflflfaaW.PrintWords Go.Proofs.YticihbccflflfaaW.PrintLast Go.Proofs.YticihbccflflfaaW.PrintMore
attribute [local go_sem] max2_int min2_int max_two min_two max_three min_three max_four min_four   -- for this text's walks alone
set_option linter.unusedVariables false
set_option linter.unusedSimpArgs false

theorem offertoryref09_Stats.keepB {W0 W w1 : World} {g : Nat} {o : Obj} (h : Aside0 (W0.heap[g]? = some o)) (hb : Below W.heap.size W w1) (hs : W0.heap[g]? = some o → W.heap[g]? = some o := by intro h_; (with_reducible repeat (first | refine blk_drewN ?_ _ | refine blk_drew ?_ | refine blk_alloc ?_ _)); exact h_) : Aside0 (w1.heap[g]? = some o) := ⟨(hb.block g (blk_lt (hs h.out))).trans (hs h.out)⟩
theorem offertoryref09_Stats.neL {W0 W : World} {g gb : Nat} {o : Obj} (h : Aside0 (W0.heap[g]? = some o)) (hg : gb = W.heap.size) (hs : W0.heap[g]? = some o → W.heap[g]? = some o := by intro h_; (with_reducible repeat (first | refine blk_drewN ?_ _ | refine blk_drew ?_ | refine blk_alloc ?_ _)); exact h_) : Aside0 (g ≠ gb) := ⟨by rw [hg]; exact Nat.ne_of_lt (blk_lt (hs h.out))⟩
theorem offertoryref09_Stats.neG {W0 W : World} {g gb : Nat} {o : Obj} (h : Aside0 (W0.heap[g]? = some o)) (hg : gb = W.heap.size) (hs : W0.heap[g]? = some o → W.heap[g]? = some o := by intro h_; (with_reducible repeat (first | refine blk_drewN ?_ _ | refine blk_drew ?_ | refine blk_alloc ?_ _)); exact h_) : Aside0 (gb ≠ g) := ⟨by rw [hg]; exact Nat.ne_of_gt (blk_lt (hs h.out))⟩
/-! ### offertoryref09_Stats: function 14 -/
def offertoryref09_Stats.l0 : Nat → List Int → Int → Int → Int → Int → List Int → List Int → Int → Int → Int → Int → Int → Bool → Int → Int → Int → Int → Int → Int → Int → Int → Int → Int → Int → Int → Int → Int → Int → Int → Option (List Int × Int × Int × Int × Int × Int × Bool)
 | 0, _, _, _, _, _, _, _, _, _, _, _, _, _, _, _, _, _, _, _, _, _, _, _, _, _, _, _, _, _ => none
 | k + 1, x1, x8, x234000, x234001, x234002, x234003, x239000, x239001, x239002, x239003, x239004, x239005, x239006, x240000, x240001, x240002, x240003, x240004, x240005, x240006, x240007, x241000, x241001, x241002, x241003, x241004, x241005, x241006, x241007 => if x8 < (x1.length : Int) then (if 0 ≤ x8 then ((offertoryref09_Bin.f k x234000 x234001 x234002 x234003 (rd x1 x8)).bind fun t255 => (if 0 ≤ t255 then (if t255 < (x239000.length : Int) then ((offertoryref09_Clamp.f x234000 x234001 x234002 x234003 (rd x1 x8)).bind fun t259 => ((offertoryref09_Int.f t259).bind fun bt260 => ((offertoryref09_Add.f x240000 x240001 x240002 x240003 x240004 x240005 x240006 x240007 bt260.1 bt260.2.1 bt260.2.2.1 bt260.2.2.2.1 bt260.2.2.2.2.1 bt260.2.2.2.2.2.1 bt260.2.2.2.2.2.2.1 bt260.2.2.2.2.2.2.2).bind fun bt269 => ((offertoryref09_Mul.f bt260.1 bt260.2.1 bt260.2.2.1 bt260.2.2.2.1 bt260.2.2.2.2.1 bt260.2.2.2.2.2.1 bt260.2.2.2.2.2.2.1 bt260.2.2.2.2.2.2.2 bt260.1 bt260.2.1 bt260.2.2.1 bt260.2.2.2.1 bt260.2.2.2.2.1 bt260.2.2.2.2.2.1 bt260.2.2.2.2.2.2.1 bt260.2.2.2.2.2.2.2).bind fun bt277 => ((offertoryref09_Add.f x241000 x241001 x241002 x241003 x241004 x241005 x241006 x241007 bt277.1 bt277.2.1 bt277.2.2.1 bt277.2.2.2.1 bt277.2.2.2.2.1 bt277.2.2.2.2.2.1 bt277.2.2.2.2.2.2.1 bt277.2.2.2.2.2.2.2).bind fun bt285 => (offertoryref09_Stats.l0 k x1 (wrap64 (x8 + 1)) x234000 x234001 x234002 x234003 (x239000.set (t255 : Int).toNat (wrap64 ((rd x239000 t255) + 1))) x239001 x239002 x239003 x239004 x239005 x239006 bt269.1 bt269.2.1 bt269.2.2.1 bt269.2.2.2.1 bt269.2.2.2.2.1 bt269.2.2.2.2.2.1 bt269.2.2.2.2.2.2.1 bt269.2.2.2.2.2.2.2 bt285.1 bt285.2.1 bt285.2.2.1 bt285.2.2.2.1 bt285.2.2.2.2.1 bt285.2.2.2.2.2.1 bt285.2.2.2.2.2.2.1 bt285.2.2.2.2.2.2.2)))))) else (none)) else (none))) else (none)) else ((offertoryref09_Big_Wide.f x241000 x241001 x241002 x241003 x241004 x241005 x241006 x241007).bind fun bt241 => ((offertoryref09_Signed.f x240000 x240001 x240002 x240003 x240004 x240005 x240006 x240007).bind fun bt243 => ((offertoryref09_Big_Wide.f bt243.1 bt243.2.1 bt243.2.2.1 bt243.2.2.2.1 bt243.2.2.2.2.1 bt243.2.2.2.2.2.1 bt243.2.2.2.2.2.2.1 bt243.2.2.2.2.2.2.2.1).bind fun bt252 => (some (x239000, x239001, bt252.1, bt252.2, bt241.1, bt241.2, bt243.2.2.2.2.2.2.2.2)))))
def offertoryref09_Stats.f (k : Nat) (a0_0 : Int) (a0_1 : Int) (a0_2 : Int) (l0_3 : List Int) (l1 : List Int) : Option (List Int × Int × Int × Int × Int × Int × Bool) := if 0 ≤ (wrap64 ((l0_3.length : Int) + 1)) then (if (wrap64 ((l0_3.length : Int) + 1) : Int).toNat ≤ 35184372088832 then (offertoryref09_Stats.l0 k l1 0 a0_0 a0_1 a0_2 l0_3 (List.replicate (wrap64 ((l0_3.length : Int) + 1) : Int).toNat 0) (l1.length : Int) 0 0 0 0 false 0 0 0 0 0 0 0 0 0 0 0 0 0 0 0 0) else (none)) else (none)
theorem offertoryref09_Stats.mono_l : ∀ k, (∀ y0 y1 y2 y3 y4 y5 y6 y7 y8 y9 y10 y11 y12 y13 y14 y15 y16 y17 y18 y19 y20 y21 y22 y23 y24 y25 y26 y27 y28, LeO (offertoryref09_Stats.l0 k y0 y1 y2 y3 y4 y5 y6 y7 y8 y9 y10 y11 y12 y13 y14 y15 y16 y17 y18 y19 y20 y21 y22 y23 y24 y25 y26 y27 y28) (offertoryref09_Stats.l0 (k + 1) y0 y1 y2 y3 y4 y5 y6 y7 y8 y9 y10 y11 y12 y13 y14 y15 y16 y17 y18 y19 y20 y21 y22 y23 y24 y25 y26 y27 y28))
 | 0 => fun _ _ _ _ _ _ _ _ _ _ _ _ _ _ _ _ _ _ _ _ _ _ _ _ _ _ _ _ _ r h => by simp [offertoryref09_Stats.l0] at h
 | k + 1 => by
  have ih0 := offertoryref09_Stats.mono_l k
  ·
   intro y0 y1 y2 y3 y4 y5 y6 y7 y8 y9 y10 y11 y12 y13 y14 y15 y16 y17 y18 y19 y20 y21 y22 y23 y24 y25 y26 y27 y28
   unfold offertoryref09_Stats.l0
   repeat' first
   | (with_reducible exact ih0 _ _ _ _ _ _ _ _ _ _ _ _ _ _ _ _ _ _ _ _ _ _ _ _ _ _ _ _ _)
   | (with_reducible exact offertoryref09_Bin.mono _ _ _ _ _ _)
   | (with_reducible exact LeO.refl _)
   | (with_reducible exact LeO.none _)
   | (with_reducible refine LeO.ite ?_ ?_)
   | (with_reducible refine LeO.bind ?_ (fun _ => ?_))
   | exact ih0 _ _ _ _ _ _ _ _ _ _ _ _ _ _ _ _ _ _ _ _ _ _ _ _ _ _ _ _ _
   | exact offertoryref09_Bin.mono _ _ _ _ _ _
   | exact LeO.none _
   | refine LeO.ite ?_ ?_
   | refine LeO.bind ?_ (fun _ => ?_)
theorem offertoryref09_Stats.mono : ∀ a0 a1 a2 a3 a4 k, LeO (offertoryref09_Stats.f k a0 a1 a2 a3 a4) (offertoryref09_Stats.f (k + 1) a0 a1 a2 a3 a4) := by
 intro a0 a1 a2 a3 a4 k
 have ih0 := offertoryref09_Stats.mono_l k
 unfold offertoryref09_Stats.f
 repeat' first
   | (with_reducible exact ih0 _ _ _ _ _ _ _ _ _ _ _ _ _ _ _ _ _ _ _ _ _ _ _ _ _ _ _ _ _)
   | (with_reducible exact offertoryref09_Bin.mono _ _ _ _ _ _)
   | (with_reducible exact LeO.refl _)
   | (with_reducible exact LeO.none _)
   | (with_reducible refine LeO.ite ?_ ?_)
   | (with_reducible refine LeO.bind ?_ (fun _ => ?_))
   | exact ih0 _ _ _ _ _ _ _ _ _ _ _ _ _ _ _ _ _ _ _ _ _ _ _ _ _ _ _ _ _
   | exact offertoryref09_Bin.mono _ _ _ _ _ _
   | exact LeO.none _
   | refine LeO.ite ?_ ?_
   | refine LeO.bind ?_ (fun _ => ?_)
def offertoryref09_Stats.T6 : Bool × List (List Nat × List Nat) := (true, [([], []), ([0], [0]), ([], []), ([], []), ([], []), ([3, 4], [3, 4]), ([5], [5]), ([2, 6], [2, 6]), ([1, 7], [1, 7]), ([8], [8]), ([9], [9]), ([1, 7, 0, 1, 2, 3, 4, 5, 6, 7, 8, 9, 10], [1, 7]), ([11, 10, 7, 0, 1, 2, 3, 4, 5, 6, 7, 8, 9, 10], [10, 11])])
def offertoryref09_Stats.B6 : List Nat := [0, 1, 0, 0, 0, 24, 56, 124, 255, 511, 1023, 2047, 4095]
theorem offertoryref09_Stats.tab6 : rtab .any (opsOf Try.f14 6) = offertoryref09_Stats.T6 := by kernel_rfl
theorem offertoryref09_Stats.bits6 : waitsOk offertoryref09_Stats.T6.2 offertoryref09_Stats.B6 = true := by kernel_rfl
def offertoryref09_Stats.T7 : Bool × List (List Nat × List Nat) := (true, [([], []), ([], []), ([], []), ([1, 2], [1, 2]), ([3], [3]), ([0, 4], [0, 4]), ([5, 5], [5]), ([], []), ([7, 6, 6, 0, 1, 2, 3, 4, 5, 6, 7], [6, 7])])
def offertoryref09_Stats.B7 : List Nat := [0, 0, 0, 6, 14, 31, 63, 0, 255]
theorem offertoryref09_Stats.tab7 : rtab .any (opsOf Try.f14 7) = offertoryref09_Stats.T7 := by kernel_rfl
theorem offertoryref09_Stats.bits7 : waitsOk offertoryref09_Stats.T7.2 offertoryref09_Stats.B7 = true := by kernel_rfl
def offertoryref09_Stats.T8 : Bool × List (List Nat × List Nat) := (true, [([], []), ([], []), ([0, 1], [0, 1]), ([], []), ([], []), ([], []), ([4, 5, 2], [4, 5]), ([3, 6, 6], [3, 6]), ([2, 7, 0, 1, 2], [2]), ([7, 8, 0, 1, 2, 3, 4, 5, 6, 7, 8], [7])])
def offertoryref09_Stats.B8 : List Nat := [0, 0, 3, 0, 0, 0, 55, 127, 255, 511]
theorem offertoryref09_Stats.tab8 : rtab .any (opsOf Try.f14 8) = offertoryref09_Stats.T8 := by kernel_rfl
theorem offertoryref09_Stats.bits8 : waitsOk offertoryref09_Stats.T8.2 offertoryref09_Stats.B8 = true := by kernel_rfl
set_option maxHeartbeats 8000000 in
set_option maxRecDepth 100000 in
theorem offertoryref09_Stats.calls (k : Nat) (a0_0 : Int) (a0_1 : Int) (a0_2 : Int) (A0_3 : Option Addr) (c0_3 : Nat) (l0_3 : List Int) (A1 : Option Addr) (c1 : Nat) (l1 : List Int) (r1 : List Int) (r2 : Int) (r3 : Int) (r4 : Int) (r5 : Int) (r6 : Int) (r7 : Bool) (w : World) (hr0_3 : Kd.C (Kd.int .i64) w A0_3 l0_3.length l0_3) (hc0_3 : l0_3.length ≤ c0_3) (hr1 : Kd.C (Kd.int .i64) w A1 l1.length l1) (hc1 : l1.length ≤ c1) (h : offertoryref09_Stats.f k a0_0 a0_1 a0_2 l0_3 l1 = some (r1, r2, r3, r4, r5, r6, r7)) :
  Calls Try.prog 14 #[.agg #[.int .i64 a0_0, .int .i64 a0_1, .int .i64 a0_2, .slice A0_3 l0_3.length c0_3], .slice A1 l1.length c1] w fun e w' => ∃ v0_ : Value, e = .returned (.agg #[v0_, .int .i64 r2, .int .u64 r3, .int .u64 r4, .int .u64 r5, .int .u64 r6, .bool r7]) ∧ Kd.R (Kd.int .i64) 3 w' w.heap.size (fun _ => True) v0_ r1 ∧ Below w.heap.size w w' := by
 have hu38 := Try.underlying38
 have hu27 := Try.underlying27
 have hu52 := Try.underlying52
 have hu25 := Try.underlying25
 have HR0_3 := Aside0.mk hr0_3
 have HC0_3 := Aside0.mk hc0_3
 clear hr0_3 hc0_3
 have HR1 := Aside0.mk hr1
 have HC1 := Aside0.mk hc1
 clear hr1 hc1
 have HB := Aside0.mk (Below.refl w.heap.size w)
 have H : (if 0 ≤ (wrap64 ((l0_3.length : Int) + 1)) then (if (wrap64 ((l0_3.length : Int) + 1) : Int).toNat ≤ 35184372088832 then (offertoryref09_Stats.l0 k l1 0 a0_0 a0_1 a0_2 l0_3 (List.replicate (wrap64 ((l0_3.length : Int) + 1) : Int).toNat 0) (l1.length : Int) 0 0 0 0 false 0 0 0 0 0 0 0 0 0 0 0 0 0 0 0 0) else (none)) else (none)) = some (r1, r2, r3, r4, r5, r6, r7) := h
 clear h
 obtain ⟨ji3, hji3⟩ : ∃ j_ : Int, (wrap64 ((l0_3.length : Int) + 1)) = j_ := ⟨_, rfl⟩
 replace H : (if 0 ≤ (ji3) then (if (ji3 : Int).toNat ≤ 35184372088832 then (offertoryref09_Stats.l0 k l1 0 a0_0 a0_1 a0_2 l0_3 (List.replicate (ji3 : Int).toNat 0) (l1.length : Int) 0 0 0 0 false 0 0 0 0 0 0 0 0 0 0 0 0 0 0 0 0) else (none)) else (none)) = some (r1, r2, r3, r4, r5, r6, r7) := by first | (rw [hji3] at H; exact H) | (simp only [hji3] at H ⊢; exact H)
 have hji3w : (IntKind.i64.wrap ((l0_3.length : Int) + 1)) = ji3 := (i64_w _).trans hji3
 by_cases c4 : 0 ≤ (ji3)
 ·
  rw [if_pos c4] at H
  have c4b0 := eq_true c4
  have c4b1 : decide (0 ≤ (ji3)) = true := decide_eq_true c4
  clear c4
  by_cases c5 : (ji3 : Int).toNat ≤ 35184372088832
  ·
   rw [if_pos c5] at H
   have c5b0 := eq_true c5
   have c5b1 : decide ((ji3 : Int).toNat ≤ 35184372088832) = true := decide_eq_true c5
   clear c5
   obtain ⟨y235, hy235⟩ : ∃ y_ : List Int, y_ = (List.replicate (ji3 : Int).toNat 0) := ⟨_, rfl⟩
   replace H : (offertoryref09_Stats.l0 k l1 0 a0_0 a0_1 a0_2 l0_3 y235 (l1.length : Int) 0 0 0 0 false 0 0 0 0 0 0 0 0 0 0 0 0 0 0 0 0) = some (r1, r2, r3, r4, r5, r6, r7) := by first | (rw [hy235]; with_reducible exact H) | (have H2_ := (Option.bind_some _ _).symm.trans H; rw [hy235]; with_reducible exact H2_) | (have H2_ := (Option.bind_some _ _).symm.trans H; with_reducible exact H2_) | with_reducible exact H | (rw [hy235]; exact H) | exact H
   have Ny235 := Aside0.mk hy235
   clear hy235
   have H' := Aside0.mk H
   clear H
   go_enter Try.func14, Try.ntmps14
   go_wp2_with (first | ((with_reducible refine gate_dst (N := 2) rfl ?_); refine box_event ?hg (N := 2) ?hd (cs := #[.int .i64 a0_0, .int .i64 a0_1, .int .i64 a0_2, .slice A0_3 l0_3.length c0_3]) (t := 38) ?hr ?_; (case hd => rfl); (case hg => rfl); (case hr => first | (go_simp; done) | (go_simp; rfl)); intro gb233 hg w6 hbox hb; have n0_ := Aside0.mk (below_step (by repeat (first | (with_reducible first | exact HB.out | apply below_alloc | apply pw_below_drewN | apply below_drew1) | exact HB.out)) hb); have n1_ := Aside0.mk (hbox); have n2_ := Aside0.mk ((by rw [hg]; exact (below_size (by repeat (first | (with_reducible first | exact HB.out | apply below_alloc | apply pw_below_drewN | apply below_drew1) | exact HB.out))) : w.heap.size ≤ gb233)); have n3_ := Aside0.mk ((by rw [hg]; exact (below_size (by repeat (first | (with_reducible first | exact HB.out | apply below_alloc | apply pw_below_drewN | apply below_drew1) | exact HB.out))) : w.heap.size ≤ gb233)); clear HB; have HB := n0_; have BK233 := n1_; have GW233 := n2_; have GE233 := n3_; clear n0_ n1_ n2_ n3_; clear hb hbox hg) | ((with_reducible refine gate_dst (N := 4) rfl ?_); refine box_event ?hg (N := 4) ?hd (cs := #[.slice none 0 0, .int .i64 0, .int .u64 0, .int .u64 0, .int .u64 0, .int .u64 0, .bool false]) (t := 27) ?hr ?_; (case hd => rfl); (case hg => rfl); (case hr => first | (go_simp; done) | (go_simp; rfl)); intro gb234 hg w7 hbox hb; have n0_ := offertoryref09_Stats.keepB BK233 hb; have n1_ := Aside0.mk (below_step (by repeat (first | (with_reducible first | exact HB.out | apply below_alloc | apply pw_below_drewN | apply below_drew1 | refine below_set ?_ GE233.out) | exact HB.out)) hb); have n2_ := Aside0.mk (hbox); have n3_ := Aside0.mk ((by rw [hg]; exact (below_size (by repeat (first | (with_reducible first | exact HB.out | apply below_alloc | apply pw_below_drewN | apply below_drew1 | refine below_set ?_ GE233.out) | exact HB.out))) : w.heap.size ≤ gb234)); have n4_ := Aside0.mk ((by rw [hg]; exact (below_size (by repeat (first | (with_reducible first | exact HB.out | apply below_alloc | apply pw_below_drewN | apply below_drew1 | refine below_set ?_ GE233.out) | exact HB.out))) : w.heap.size ≤ gb234)); have n5_ := offertoryref09_Stats.neL BK233 hg; have n6_ := offertoryref09_Stats.neG BK233 hg; clear BK233; clear HB; have BK233 := n0_; have HB := n1_; have BK234 := n2_; have GW234 := n3_; have GE234 := n4_; have NB233_234 := n5_; have NB234_233 := n6_; clear n0_ n1_ n2_ n3_ n4_ n5_ n6_; clear hb hbox hg; have hnb8 := NB233_234.out; have hnc8 := NB234_233.out; have hcz9_0 : w7.cell? ⟨gb233, 0, none⟩ = some (.int .i64 a0_0) := (blk_cell BK233.out 0).trans rfl; have hcz9_1 : w7.cell? ⟨gb233, 1, none⟩ = some (.int .i64 a0_1) := (blk_cell BK233.out 1).trans rfl; have hcz9_2 : w7.cell? ⟨gb233, 2, none⟩ = some (.int .i64 a0_2) := (blk_cell BK233.out 2).trans rfl; have hcz9_3 : w7.cell? ⟨gb233, 3, none⟩ = some (.slice A0_3 l0_3.length c0_3) := (blk_cell BK233.out 3).trans rfl; have hfz9_0 := blk_frozen BK233.out 0; have hfz9_1 := blk_frozen BK233.out 1; have hfz9_2 := blk_frozen BK233.out 2; have hfz9_3 := blk_frozen BK233.out 3) | ((with_reducible refine gate_dst (N := 14) rfl ?_); refine Kd.R_make (Kd.int .i64) _ 3 rfl (N := 14) rfl 22 _ _ rfl ji3 rfl rfl Try.underlying22 (.int .i64 0) 8 info3 rfl (by decide) (by omega) 0 (ok := fun _ => True) (okp := fun _ => True) rfl (fun _ hk => hk) trivial (of_decide_eq_true (by first | (with_reducible assumption) | assumption)) (Nat.le_trans (Nat.mul_le_mul_right _ (of_decide_eq_true (by first | (with_reducible assumption) | assumption) : ji3.toNat ≤ 35184372088832)) (by omega)) (Below.refl _ _) (Nat.le_refl _) ?_; intro v236 w10 ho11 hb hg_ hnew_; clear hg_ hnew_; (first | rw [← Ny235.out] at ho11 | (simp only [Int.reduceToNat] at ho11; rw [← Ny235.out] at ho11)); have n0_ := Aside0.mk (Kd.R_lower ho11 (below_size (by repeat (first | (with_reducible first | exact HB.out | apply below_alloc | apply pw_below_drewN | apply below_drew1 | refine below_set ?_ GE233.out | refine below_set ?_ GE234.out) | exact HB.out)))); have n1_ := offertoryref09_Stats.keepB BK233 hb; have n2_ := offertoryref09_Stats.keepB BK234 hb; have n3_ := Aside0.mk (below_step (by repeat (first | (with_reducible first | exact HB.out | apply below_alloc | apply pw_below_drewN | apply below_drew1 | refine below_set ?_ GE233.out | refine below_set ?_ GE234.out) | exact HB.out)) hb); clear BK233; clear BK234; clear HB; have HO237 := n0_; have BK233 := n1_; have BK234 := n2_; have HB := n3_; clear n0_ n1_ n2_ n3_; clear hb ho11; obtain ⟨Ao12, co12, eo12⟩ := Kd.R_slice HO237.out; subst eo12) | ((with_reducible refine gate_dst (N := 5) rfl ?_); refine box_event ?hg (N := 5) ?hd (cs := #[.slice none 0 0, .int .i64 0, .int .u64 0, .int .u64 0, .int .u64 0, .int .u64 0, .bool false]) (t := 27) ?hr ?_; (case hd => rfl); (case hg => rfl); (case hr => first | (go_simp; done) | (go_simp; rfl)); intro gb238 hg w13 hbox hb; have n0_ := Aside0.mk (Kd.R_below (by (with_reducible repeat (first | apply Kd.R_alloc | apply Kd.R_drewN | apply Kd.R_drew)); exact HO237.out) hb); have n1_ := offertoryref09_Stats.keepB BK233 hb; have n2_ := offertoryref09_Stats.keepB BK234 hb; have n3_ := Aside0.mk (below_step (by repeat (first | (with_reducible first | exact HB.out | apply below_alloc | apply pw_below_drewN | apply below_drew1 | refine below_set ?_ GE233.out | refine below_set ?_ GE234.out) | exact HB.out)) hb); have n4_ := Aside0.mk (hbox); have n5_ := Aside0.mk ((by rw [hg]; exact (below_size (by repeat (first | (with_reducible first | exact HB.out | apply below_alloc | apply pw_below_drewN | apply below_drew1 | refine below_set ?_ GE233.out | refine below_set ?_ GE234.out) | exact HB.out))) : w.heap.size ≤ gb238)); have n6_ := Aside0.mk ((by rw [hg]; exact (below_size (by repeat (first | (with_reducible first | exact HB.out | apply below_alloc | apply pw_below_drewN | apply below_drew1 | refine below_set ?_ GE233.out | refine below_set ?_ GE234.out) | exact HB.out))) : w.heap.size ≤ gb238)); have n7_ := offertoryref09_Stats.neL BK233 hg; have n8_ := offertoryref09_Stats.neG BK233 hg; have n9_ := offertoryref09_Stats.neL BK234 hg; have n10_ := offertoryref09_Stats.neG BK234 hg; clear HO237; clear BK233; clear BK234; clear HB; have HO237 := n0_; have BK233 := n1_; have BK234 := n2_; have HB := n3_; have BK238 := n4_; have GW238 := n5_; have GE238 := n6_; have NB233_238 := n7_; have NB238_233 := n8_; have NB234_238 := n9_; have NB238_234 := n10_; clear n0_ n1_ n2_ n3_ n4_ n5_ n6_ n7_ n8_ n9_ n10_; clear hb hbox hg; have hnb14 := NB238_233.out; have hnc14 := NB233_238.out; have hnb15 := NB238_234.out; have hnc15 := NB234_238.out; have hcz16_0 : w13.cell? ⟨gb238, 0, none⟩ = some (.slice none 0 0) := (blk_cell BK238.out 0).trans rfl; have hcz16_1 : w13.cell? ⟨gb238, 1, none⟩ = some (.int .i64 0) := (blk_cell BK238.out 1).trans rfl; have hcz16_2 : w13.cell? ⟨gb238, 2, none⟩ = some (.int .u64 0) := (blk_cell BK238.out 2).trans rfl; have hcz16_3 : w13.cell? ⟨gb238, 3, none⟩ = some (.int .u64 0) := (blk_cell BK238.out 3).trans rfl; have hcz16_4 : w13.cell? ⟨gb238, 4, none⟩ = some (.int .u64 0) := (blk_cell BK238.out 4).trans rfl; have hcz16_5 : w13.cell? ⟨gb238, 5, none⟩ = some (.int .u64 0) := (blk_cell BK238.out 5).trans rfl; have hcz16_6 : w13.cell? ⟨gb238, 6, none⟩ = some (.bool false) := (blk_cell BK238.out 6).trans rfl; have hfz16_0 := blk_frozen BK238.out 0; have hfz16_1 := blk_frozen BK238.out 1; have hfz16_2 := blk_frozen BK238.out 2; have hfz16_3 := blk_frozen BK238.out 3; have hfz16_4 := blk_frozen BK238.out 4; have hfz16_5 := blk_frozen BK238.out 5; have hfz16_6 := blk_frozen BK238.out 6) | ((with_reducible refine gate_dst (N := 6) rfl ?_); refine box_event ?hg (N := 6) ?hd (cs := #[.int .u32 0, .int .u32 0, .int .u32 0, .int .u32 0, .int .u32 0, .int .u32 0, .int .u32 0, .int .u32 0]) (t := 52) ?hr ?_; (case hd => rfl); (case hg => rfl); (case hr => first | (go_simp; done) | (go_simp; rfl)); intro gb239 hg w17 hbox hb; have n0_ := Aside0.mk (Kd.R_below (by (with_reducible repeat (first | apply Kd.R_alloc | apply Kd.R_drewN | apply Kd.R_drew)); exact (Kd.R_mono (Kd.R_far (p := ⟨gb238, 6, none⟩) (Kd.R_far (p := ⟨gb238, 5, none⟩) (Kd.R_far (p := ⟨gb238, 4, none⟩) (Kd.R_far (p := ⟨gb238, 3, none⟩) (Kd.R_far (p := ⟨gb238, 2, none⟩) (Kd.R_far (p := ⟨gb238, 1, none⟩) (Kd.R_far (p := ⟨gb238, 0, none⟩) (Kd.R_types HO237.out BK238.out (by decide)) (fun _ hk => hk.2) (.slice Ao12 y235.length co12)) (fun _ hk => hk.2) (.int .i64 (l1.length : Int))) (fun _ hk => hk.2) (.int .u64 0)) (fun _ hk => hk.2) (.int .u64 0)) (fun _ hk => hk.2) (.int .u64 0)) (fun _ hk => hk.2) (.int .u64 0)) (fun _ hk => hk.2) (.bool false)) (fun _ h_ => h_.1))) hb); have n1_ := Aside0.mk (blk_below (g := gb233) (o := .cells #[.int .i64 a0_0, .int .i64 a0_1, .int .i64 a0_2, .slice A0_3 l0_3.length c0_3] 38 (0, 0)) (by (repeat (first | (with_reducible first | refine blk_drewN ?_ _ | refine blk_drew ?_ | refine blk_alloc ?_ _) | refine blk_far ?_ NB233_238.out _)); (with_reducible repeat (first | refine blk_drewN ?_ _ | refine blk_drew ?_ | refine blk_alloc ?_ _)); exact BK233.out) hb); have n2_ := Aside0.mk (blk_below (g := gb234) (o := .cells #[.slice none 0 0, .int .i64 0, .int .u64 0, .int .u64 0, .int .u64 0, .int .u64 0, .bool false] 27 (0, 0)) (by (repeat (first | (with_reducible first | refine blk_drewN ?_ _ | refine blk_drew ?_ | refine blk_alloc ?_ _) | refine blk_far ?_ NB234_238.out _)); (with_reducible repeat (first | refine blk_drewN ?_ _ | refine blk_drew ?_ | refine blk_alloc ?_ _)); exact BK234.out) hb); have n3_ := Aside0.mk (blk_below (g := gb238) (o := .cells #[.slice Ao12 y235.length co12, .int .i64 (l1.length : Int), .int .u64 0, .int .u64 0, .int .u64 0, .int .u64 0, .bool false] 27 (0, 0)) (by (with_reducible repeat (first | refine blk_drewN ?_ _ | refine blk_drew ?_ | refine blk_alloc ?_ _)); refine blk_put (cs := #[.slice Ao12 y235.length co12, .int .i64 (l1.length : Int), .int .u64 0, .int .u64 0, .int .u64 0, .int .u64 0, .bool false]) ?_ 6 _ rfl; (with_reducible repeat (first | refine blk_drewN ?_ _ | refine blk_drew ?_ | refine blk_alloc ?_ _)); refine blk_put (cs := #[.slice Ao12 y235.length co12, .int .i64 (l1.length : Int), .int .u64 0, .int .u64 0, .int .u64 0, .int .u64 0, .bool false]) ?_ 5 _ rfl; (with_reducible repeat (first | refine blk_drewN ?_ _ | refine blk_drew ?_ | refine blk_alloc ?_ _)); refine blk_put (cs := #[.slice Ao12 y235.length co12, .int .i64 (l1.length : Int), .int .u64 0, .int .u64 0, .int .u64 0, .int .u64 0, .bool false]) ?_ 4 _ rfl; (with_reducible repeat (first | refine blk_drewN ?_ _ | refine blk_drew ?_ | refine blk_alloc ?_ _)); refine blk_put (cs := #[.slice Ao12 y235.length co12, .int .i64 (l1.length : Int), .int .u64 0, .int .u64 0, .int .u64 0, .int .u64 0, .bool false]) ?_ 3 _ rfl; (with_reducible repeat (first | refine blk_drewN ?_ _ | refine blk_drew ?_ | refine blk_alloc ?_ _)); refine blk_put (cs := #[.slice Ao12 y235.length co12, .int .i64 (l1.length : Int), .int .u64 0, .int .u64 0, .int .u64 0, .int .u64 0, .bool false]) ?_ 2 _ rfl; (with_reducible repeat (first | refine blk_drewN ?_ _ | refine blk_drew ?_ | refine blk_alloc ?_ _)); refine blk_put (cs := #[.slice Ao12 y235.length co12, .int .i64 0, .int .u64 0, .int .u64 0, .int .u64 0, .int .u64 0, .bool false]) ?_ 1 _ rfl; (with_reducible repeat (first | refine blk_drewN ?_ _ | refine blk_drew ?_ | refine blk_alloc ?_ _)); refine blk_put (cs := #[.slice none 0 0, .int .i64 0, .int .u64 0, .int .u64 0, .int .u64 0, .int .u64 0, .bool false]) ?_ 0 _ rfl; (with_reducible repeat (first | refine blk_drewN ?_ _ | refine blk_drew ?_ | refine blk_alloc ?_ _)); exact BK238.out) hb); have n4_ := Aside0.mk (below_step (by repeat (first | (with_reducible first | exact HB.out | apply below_alloc | apply pw_below_drewN | apply below_drew1 | refine below_set ?_ GE233.out | refine below_set ?_ GE234.out | refine below_set ?_ GE238.out) | exact HB.out)) hb); have n5_ := Aside0.mk (hbox); have n6_ := Aside0.mk ((by rw [hg]; exact (below_size (by repeat (first | (with_reducible first | exact HB.out | apply below_alloc | apply pw_below_drewN | apply below_drew1 | refine below_set ?_ GE233.out | refine below_set ?_ GE234.out | refine below_set ?_ GE238.out) | exact HB.out))) : w.heap.size ≤ gb239)); have n7_ := Aside0.mk ((by rw [hg]; exact (below_size (by repeat (first | (with_reducible first | exact HB.out | apply below_alloc | apply pw_below_drewN | apply below_drew1 | refine below_set ?_ GE233.out | refine below_set ?_ GE234.out | refine below_set ?_ GE238.out) | exact HB.out))) : w.heap.size ≤ gb239)); have n8_ := Aside0.mk ((by rw [hg]; exact Nat.ne_of_lt (blk_lt (g := gb233) (o := .cells #[.int .i64 a0_0, .int .i64 a0_1, .int .i64 a0_2, .slice A0_3 l0_3.length c0_3] 38 (0, 0)) (by (repeat (first | (with_reducible first | refine blk_drewN ?_ _ | refine blk_drew ?_ | refine blk_alloc ?_ _) | refine blk_far ?_ NB233_238.out _)); (with_reducible repeat (first | refine blk_drewN ?_ _ | refine blk_drew ?_ | refine blk_alloc ?_ _)); exact BK233.out)) : gb233 ≠ gb239)); have n9_ := Aside0.mk ((by rw [hg]; exact Nat.ne_of_gt (blk_lt (g := gb233) (o := .cells #[.int .i64 a0_0, .int .i64 a0_1, .int .i64 a0_2, .slice A0_3 l0_3.length c0_3] 38 (0, 0)) (by (repeat (first | (with_reducible first | refine blk_drewN ?_ _ | refine blk_drew ?_ | refine blk_alloc ?_ _) | refine blk_far ?_ NB233_238.out _)); (with_reducible repeat (first | refine blk_drewN ?_ _ | refine blk_drew ?_ | refine blk_alloc ?_ _)); exact BK233.out)) : gb239 ≠ gb233)); have n10_ := Aside0.mk ((by rw [hg]; exact Nat.ne_of_lt (blk_lt (g := gb234) (o := .cells #[.slice none 0 0, .int .i64 0, .int .u64 0, .int .u64 0, .int .u64 0, .int .u64 0, .bool false] 27 (0, 0)) (by (repeat (first | (with_reducible first | refine blk_drewN ?_ _ | refine blk_drew ?_ | refine blk_alloc ?_ _) | refine blk_far ?_ NB234_238.out _)); (with_reducible repeat (first | refine blk_drewN ?_ _ | refine blk_drew ?_ | refine blk_alloc ?_ _)); exact BK234.out)) : gb234 ≠ gb239)); have n11_ := Aside0.mk ((by rw [hg]; exact Nat.ne_of_gt (blk_lt (g := gb234) (o := .cells #[.slice none 0 0, .int .i64 0, .int .u64 0, .int .u64 0, .int .u64 0, .int .u64 0, .bool false] 27 (0, 0)) (by (repeat (first | (with_reducible first | refine blk_drewN ?_ _ | refine blk_drew ?_ | refine blk_alloc ?_ _) | refine blk_far ?_ NB234_238.out _)); (with_reducible repeat (first | refine blk_drewN ?_ _ | refine blk_drew ?_ | refine blk_alloc ?_ _)); exact BK234.out)) : gb239 ≠ gb234)); have n12_ := Aside0.mk ((by rw [hg]; exact Nat.ne_of_lt (blk_lt (g := gb238) (o := .cells #[.slice Ao12 y235.length co12, .int .i64 (l1.length : Int), .int .u64 0, .int .u64 0, .int .u64 0, .int .u64 0, .bool false] 27 (0, 0)) (by (with_reducible repeat (first | refine blk_drewN ?_ _ | refine blk_drew ?_ | refine blk_alloc ?_ _)); refine blk_put (cs := #[.slice Ao12 y235.length co12, .int .i64 (l1.length : Int), .int .u64 0, .int .u64 0, .int .u64 0, .int .u64 0, .bool false]) ?_ 6 _ rfl; (with_reducible repeat (first | refine blk_drewN ?_ _ | refine blk_drew ?_ | refine blk_alloc ?_ _)); refine blk_put (cs := #[.slice Ao12 y235.length co12, .int .i64 (l1.length : Int), .int .u64 0, .int .u64 0, .int .u64 0, .int .u64 0, .bool false]) ?_ 5 _ rfl; (with_reducible repeat (first | refine blk_drewN ?_ _ | refine blk_drew ?_ | refine blk_alloc ?_ _)); refine blk_put (cs := #[.slice Ao12 y235.length co12, .int .i64 (l1.length : Int), .int .u64 0, .int .u64 0, .int .u64 0, .int .u64 0, .bool false]) ?_ 4 _ rfl; (with_reducible repeat (first | refine blk_drewN ?_ _ | refine blk_drew ?_ | refine blk_alloc ?_ _)); refine blk_put (cs := #[.slice Ao12 y235.length co12, .int .i64 (l1.length : Int), .int .u64 0, .int .u64 0, .int .u64 0, .int .u64 0, .bool false]) ?_ 3 _ rfl; (with_reducible repeat (first | refine blk_drewN ?_ _ | refine blk_drew ?_ | refine blk_alloc ?_ _)); refine blk_put (cs := #[.slice Ao12 y235.length co12, .int .i64 (l1.length : Int), .int .u64 0, .int .u64 0, .int .u64 0, .int .u64 0, .bool false]) ?_ 2 _ rfl; (with_reducible repeat (first | refine blk_drewN ?_ _ | refine blk_drew ?_ | refine blk_alloc ?_ _)); refine blk_put (cs := #[.slice Ao12 y235.length co12, .int .i64 0, .int .u64 0, .int .u64 0, .int .u64 0, .int .u64 0, .bool false]) ?_ 1 _ rfl; (with_reducible repeat (first | refine blk_drewN ?_ _ | refine blk_drew ?_ | refine blk_alloc ?_ _)); refine blk_put (cs := #[.slice none 0 0, .int .i64 0, .int .u64 0, .int .u64 0, .int .u64 0, .int .u64 0, .bool false]) ?_ 0 _ rfl; (with_reducible repeat (first | refine blk_drewN ?_ _ | refine blk_drew ?_ | refine blk_alloc ?_ _)); exact BK238.out)) : gb238 ≠ gb239)); have n13_ := Aside0.mk ((by rw [hg]; exact Nat.ne_of_gt (blk_lt (g := gb238) (o := .cells #[.slice Ao12 y235.length co12, .int .i64 (l1.length : Int), .int .u64 0, .int .u64 0, .int .u64 0, .int .u64 0, .bool false] 27 (0, 0)) (by (with_reducible repeat (first | refine blk_drewN ?_ _ | refine blk_drew ?_ | refine blk_alloc ?_ _)); refine blk_put (cs := #[.slice Ao12 y235.length co12, .int .i64 (l1.length : Int), .int .u64 0, .int .u64 0, .int .u64 0, .int .u64 0, .bool false]) ?_ 6 _ rfl; (with_reducible repeat (first | refine blk_drewN ?_ _ | refine blk_drew ?_ | refine blk_alloc ?_ _)); refine blk_put (cs := #[.slice Ao12 y235.length co12, .int .i64 (l1.length : Int), .int .u64 0, .int .u64 0, .int .u64 0, .int .u64 0, .bool false]) ?_ 5 _ rfl; (with_reducible repeat (first | refine blk_drewN ?_ _ | refine blk_drew ?_ | refine blk_alloc ?_ _)); refine blk_put (cs := #[.slice Ao12 y235.length co12, .int .i64 (l1.length : Int), .int .u64 0, .int .u64 0, .int .u64 0, .int .u64 0, .bool false]) ?_ 4 _ rfl; (with_reducible repeat (first | refine blk_drewN ?_ _ | refine blk_drew ?_ | refine blk_alloc ?_ _)); refine blk_put (cs := #[.slice Ao12 y235.length co12, .int .i64 (l1.length : Int), .int .u64 0, .int .u64 0, .int .u64 0, .int .u64 0, .bool false]) ?_ 3 _ rfl; (with_reducible repeat (first | refine blk_drewN ?_ _ | refine blk_drew ?_ | refine blk_alloc ?_ _)); refine blk_put (cs := #[.slice Ao12 y235.length co12, .int .i64 (l1.length : Int), .int .u64 0, .int .u64 0, .int .u64 0, .int .u64 0, .bool false]) ?_ 2 _ rfl; (with_reducible repeat (first | refine blk_drewN ?_ _ | refine blk_drew ?_ | refine blk_alloc ?_ _)); refine blk_put (cs := #[.slice Ao12 y235.length co12, .int .i64 0, .int .u64 0, .int .u64 0, .int .u64 0, .int .u64 0, .bool false]) ?_ 1 _ rfl; (with_reducible repeat (first | refine blk_drewN ?_ _ | refine blk_drew ?_ | refine blk_alloc ?_ _)); refine blk_put (cs := #[.slice none 0 0, .int .i64 0, .int .u64 0, .int .u64 0, .int .u64 0, .int .u64 0, .bool false]) ?_ 0 _ rfl; (with_reducible repeat (first | refine blk_drewN ?_ _ | refine blk_drew ?_ | refine blk_alloc ?_ _)); exact BK238.out)) : gb239 ≠ gb238)); clear HO237; clear BK233; clear BK234; clear BK238; clear HB; have HO237 := n0_; have BK233 := n1_; have BK234 := n2_; have BK238 := n3_; have HB := n4_; have BK239 := n5_; have GW239 := n6_; have GE239 := n7_; have NB233_239 := n8_; have NB239_233 := n9_; have NB234_239 := n10_; have NB239_234 := n11_; have NB238_239 := n12_; have NB239_238 := n13_; clear n0_ n1_ n2_ n3_ n4_ n5_ n6_ n7_ n8_ n9_ n10_ n11_ n12_ n13_; clear hb hbox hg) | ((with_reducible refine gate_dst (N := 7) rfl ?_); refine box_event ?hg (N := 7) ?hd (cs := #[.int .u32 0, .int .u32 0, .int .u32 0, .int .u32 0, .int .u32 0, .int .u32 0, .int .u32 0, .int .u32 0]) (t := 52) ?hr ?_; (case hd => rfl); (case hg => rfl); (case hr => first | (go_simp; done) | (go_simp; rfl)); intro gb240 hg w18 hbox hb; have n0_ := Aside0.mk (Kd.R_below (by (with_reducible repeat (first | apply Kd.R_alloc | apply Kd.R_drewN | apply Kd.R_drew)); exact HO237.out) hb); have n1_ := offertoryref09_Stats.keepB BK233 hb; have n2_ := offertoryref09_Stats.keepB BK234 hb; have n3_ := offertoryref09_Stats.keepB BK238 hb; have n4_ := offertoryref09_Stats.keepB BK239 hb; have n5_ := Aside0.mk (below_step (by repeat (first | (with_reducible first | exact HB.out | apply below_alloc | apply pw_below_drewN | apply below_drew1 | refine below_set ?_ GE233.out | refine below_set ?_ GE234.out | refine below_set ?_ GE238.out | refine below_set ?_ GE239.out) | exact HB.out)) hb); have n6_ := Aside0.mk (hbox); have n7_ := Aside0.mk ((by rw [hg]; exact (below_size (by repeat (first | (with_reducible first | exact HB.out | apply below_alloc | apply pw_below_drewN | apply below_drew1 | refine below_set ?_ GE233.out | refine below_set ?_ GE234.out | refine below_set ?_ GE238.out | refine below_set ?_ GE239.out) | exact HB.out))) : w.heap.size ≤ gb240)); have n8_ := Aside0.mk ((by rw [hg]; exact (below_size (by repeat (first | (with_reducible first | exact HB.out | apply below_alloc | apply pw_below_drewN | apply below_drew1 | refine below_set ?_ GE233.out | refine below_set ?_ GE234.out | refine below_set ?_ GE238.out | refine below_set ?_ GE239.out) | exact HB.out))) : w.heap.size ≤ gb240)); have n9_ := offertoryref09_Stats.neL BK233 hg; have n10_ := offertoryref09_Stats.neG BK233 hg; have n11_ := offertoryref09_Stats.neL BK234 hg; have n12_ := offertoryref09_Stats.neG BK234 hg; have n13_ := offertoryref09_Stats.neL BK238 hg; have n14_ := offertoryref09_Stats.neG BK238 hg; have n15_ := offertoryref09_Stats.neL BK239 hg; have n16_ := offertoryref09_Stats.neG BK239 hg; clear HO237; clear BK233; clear BK234; clear BK238; clear BK239; clear HB; have HO237 := n0_; have BK233 := n1_; have BK234 := n2_; have BK238 := n3_; have BK239 := n4_; have HB := n5_; have BK240 := n6_; have GW240 := n7_; have GE240 := n8_; have NB233_240 := n9_; have NB240_233 := n10_; have NB234_240 := n11_; have NB240_234 := n12_; have NB238_240 := n13_; have NB240_238 := n14_; have NB239_240 := n15_; have NB240_239 := n16_; clear n0_ n1_ n2_ n3_ n4_ n5_ n6_ n7_ n8_ n9_ n10_ n11_ n12_ n13_ n14_ n15_ n16_; clear hb hbox hg; have hnb19 := NB239_233.out; have hnc19 := NB233_239.out; have hnb20 := NB239_234.out; have hnc20 := NB234_239.out; have hnb21 := NB239_238.out; have hnc21 := NB238_239.out; have hnb22 := NB239_240.out; have hnc22 := NB240_239.out; have hcz23_0 : w18.cell? ⟨gb239, 0, none⟩ = some (.int .u32 0) := (blk_cell BK239.out 0).trans rfl; have hcz23_1 : w18.cell? ⟨gb239, 1, none⟩ = some (.int .u32 0) := (blk_cell BK239.out 1).trans rfl; have hcz23_2 : w18.cell? ⟨gb239, 2, none⟩ = some (.int .u32 0) := (blk_cell BK239.out 2).trans rfl; have hcz23_3 : w18.cell? ⟨gb239, 3, none⟩ = some (.int .u32 0) := (blk_cell BK239.out 3).trans rfl; have hcz23_4 : w18.cell? ⟨gb239, 4, none⟩ = some (.int .u32 0) := (blk_cell BK239.out 4).trans rfl; have hcz23_5 : w18.cell? ⟨gb239, 5, none⟩ = some (.int .u32 0) := (blk_cell BK239.out 5).trans rfl; have hcz23_6 : w18.cell? ⟨gb239, 6, none⟩ = some (.int .u32 0) := (blk_cell BK239.out 6).trans rfl; have hcz23_7 : w18.cell? ⟨gb239, 7, none⟩ = some (.int .u32 0) := (blk_cell BK239.out 7).trans rfl; have hfz23_0 := blk_frozen BK239.out 0; have hfz23_1 := blk_frozen BK239.out 1; have hfz23_2 := blk_frozen BK239.out 2; have hfz23_3 := blk_frozen BK239.out 3; have hfz23_4 := blk_frozen BK239.out 4; have hfz23_5 := blk_frozen BK239.out 5; have hfz23_6 := blk_frozen BK239.out 6; have hfz23_7 := blk_frozen BK239.out 7; have hnb24 := NB240_233.out; have hnc24 := NB233_240.out; have hnb25 := NB240_234.out; have hnc25 := NB234_240.out; have hnb26 := NB240_238.out; have hnc26 := NB238_240.out; have hcz27_0 : w18.cell? ⟨gb240, 0, none⟩ = some (.int .u32 0) := (blk_cell BK240.out 0).trans rfl; have hcz27_1 : w18.cell? ⟨gb240, 1, none⟩ = some (.int .u32 0) := (blk_cell BK240.out 1).trans rfl; have hcz27_2 : w18.cell? ⟨gb240, 2, none⟩ = some (.int .u32 0) := (blk_cell BK240.out 2).trans rfl; have hcz27_3 : w18.cell? ⟨gb240, 3, none⟩ = some (.int .u32 0) := (blk_cell BK240.out 3).trans rfl; have hcz27_4 : w18.cell? ⟨gb240, 4, none⟩ = some (.int .u32 0) := (blk_cell BK240.out 4).trans rfl; have hcz27_5 : w18.cell? ⟨gb240, 5, none⟩ = some (.int .u32 0) := (blk_cell BK240.out 5).trans rfl; have hcz27_6 : w18.cell? ⟨gb240, 6, none⟩ = some (.int .u32 0) := (blk_cell BK240.out 6).trans rfl; have hcz27_7 : w18.cell? ⟨gb240, 7, none⟩ = some (.int .u32 0) := (blk_cell BK240.out 7).trans rfl; have hfz27_0 := blk_frozen BK240.out 0; have hfz27_1 := blk_frozen BK240.out 1; have hfz27_2 := blk_frozen BK240.out 2; have hfz27_3 := blk_frozen BK240.out 3; have hfz27_4 := blk_frozen BK240.out 4; have hfz27_5 := blk_frozen BK240.out 5; have hfz27_6 := blk_frozen BK240.out 6; have hfz27_7 := blk_frozen BK240.out 7))
   go_loopg [8] k (fun kq v8 w' => ∃ (x8_1 : Int) (x239000_1 : List Int) (x240000_1 : Int) (x240001_1 : Int) (x240002_1 : Int) (x240003_1 : Int) (x240004_1 : Int) (x240005_1 : Int) (x240006_1 : Int) (x240007_1 : Int) (x241000_1 : Int) (x241001_1 : Int) (x241002_1 : Int) (x241003_1 : Int) (x241004_1 : Int) (x241005_1 : Int) (x241006_1 : Int) (x241007_1 : Int) (u239000 : Value), v8 = .int .i64 x8_1 ∧ Aside0 (offertoryref09_Stats.l0 kq l1 x8_1 a0_0 a0_1 a0_2 l0_3 x239000_1 (l1.length : Int) 0 0 0 0 false x240000_1 x240001_1 x240002_1 x240003_1 x240004_1 x240005_1 x240006_1 x240007_1 x241000_1 x241001_1 x241002_1 x241003_1 x241004_1 x241005_1 x241006_1 x241007_1 = some (r1, r2, r3, r4, r5, r6, r7)) ∧ Aside0 (kq ≤ k) ∧ Aside0 (Kd.R (Kd.int .i64) 3 w' w.heap.size (fun _ => True) u239000 x239000_1) ∧ Aside0 (w'.heap[gb233]? = some (.cells #[.int .i64 a0_0, .int .i64 a0_1, .int .i64 a0_2, (.slice A0_3 l0_3.length c0_3)] 38 (0, 0))) ∧ Aside0 (w'.heap[gb234]? = some (.cells #[(.slice none 0 0), .int .i64 0, .int .u64 0, .int .u64 0, .int .u64 0, .int .u64 0, .bool false] 27 (0, 0))) ∧ Aside0 (w'.heap[gb238]? = some (.cells #[u239000, .int .i64 (l1.length : Int), .int .u64 0, .int .u64 0, .int .u64 0, .int .u64 0, .bool false] 27 (0, 0))) ∧ Aside0 (w'.heap[gb239]? = some (.cells #[.int .u32 x240000_1, .int .u32 x240001_1, .int .u32 x240002_1, .int .u32 x240003_1, .int .u32 x240004_1, .int .u32 x240005_1, .int .u32 x240006_1, .int .u32 x240007_1] 52 (0, 0))) ∧ Aside0 (w'.heap[gb240]? = some (.cells #[.int .u32 x241000_1, .int .u32 x241001_1, .int .u32 x241002_1, .int .u32 x241003_1, .int .u32 x241004_1, .int .u32 x241005_1, .int .u32 x241006_1, .int .u32 x241007_1] 52 (0, 0))) ∧ Aside0 (Below w.heap.size w w'))
   case atStart => exact ⟨(0), (y235), (0), (0), (0), (0), (0), (0), (0), (0), (0), (0), (0), (0), (0), (0), (0), (0), (.slice Ao12 y235.length co12), (by first | rfl | (simp; done) | (simp [*]; done)), H', ⟨Nat.le_refl _⟩, ⟨by (with_reducible repeat (first | apply Kd.R_alloc | apply Kd.R_drewN | apply Kd.R_drew)); exact Kd.R_mono (Kd.R_far (p := ⟨gb240, 7, none⟩) (Kd.R_far (p := ⟨gb240, 6, none⟩) (Kd.R_far (p := ⟨gb240, 5, none⟩) (Kd.R_far (p := ⟨gb240, 4, none⟩) (Kd.R_far (p := ⟨gb240, 3, none⟩) (Kd.R_far (p := ⟨gb240, 2, none⟩) (Kd.R_far (p := ⟨gb240, 1, none⟩) (Kd.R_far (p := ⟨gb240, 0, none⟩) (Kd.R_far (p := ⟨gb239, 7, none⟩) (Kd.R_far (p := ⟨gb239, 6, none⟩) (Kd.R_far (p := ⟨gb239, 5, none⟩) (Kd.R_far (p := ⟨gb239, 4, none⟩) (Kd.R_far (p := ⟨gb239, 3, none⟩) (Kd.R_far (p := ⟨gb239, 2, none⟩) (Kd.R_far (p := ⟨gb239, 1, none⟩) (Kd.R_far (p := ⟨gb239, 0, none⟩) (Kd.R_types (Kd.R_types HO237.out BK239.out (by decide)) BK240.out (by decide)) (fun _ hk => hk.1.2) (.int .u32 0)) (fun _ hk => hk.1.2) (.int .u32 0)) (fun _ hk => hk.1.2) (.int .u32 0)) (fun _ hk => hk.1.2) (.int .u32 0)) (fun _ hk => hk.1.2) (.int .u32 0)) (fun _ hk => hk.1.2) (.int .u32 0)) (fun _ hk => hk.1.2) (.int .u32 0)) (fun _ hk => hk.1.2) (.int .u32 0)) (fun _ hk => hk.2) (.int .u32 0)) (fun _ hk => hk.2) (.int .u32 0)) (fun _ hk => hk.2) (.int .u32 0)) (fun _ hk => hk.2) (.int .u32 0)) (fun _ hk => hk.2) (.int .u32 0)) (fun _ hk => hk.2) (.int .u32 0)) (fun _ hk => hk.2) (.int .u32 0)) (fun _ hk => hk.2) (.int .u32 0)) (fun _ hk => trivial)⟩, ⟨by (repeat (first | (with_reducible first | refine blk_drewN ?_ _ | refine blk_drew ?_ | refine blk_alloc ?_ _) | refine blk_far ?_ NB233_240.out _)); (repeat (first | (with_reducible first | refine blk_drewN ?_ _ | refine blk_drew ?_ | refine blk_alloc ?_ _) | refine blk_far ?_ NB233_239.out _)); (with_reducible repeat (first | refine blk_drewN ?_ _ | refine blk_drew ?_ | refine blk_alloc ?_ _)); exact BK233.out⟩, ⟨by (repeat (first | (with_reducible first | refine blk_drewN ?_ _ | refine blk_drew ?_ | refine blk_alloc ?_ _) | refine blk_far ?_ NB234_240.out _)); (repeat (first | (with_reducible first | refine blk_drewN ?_ _ | refine blk_drew ?_ | refine blk_alloc ?_ _) | refine blk_far ?_ NB234_239.out _)); (with_reducible repeat (first | refine blk_drewN ?_ _ | refine blk_drew ?_ | refine blk_alloc ?_ _)); exact BK234.out⟩, ⟨by (repeat (first | (with_reducible first | refine blk_drewN ?_ _ | refine blk_drew ?_ | refine blk_alloc ?_ _) | refine blk_far ?_ NB238_240.out _)); (repeat (first | (with_reducible first | refine blk_drewN ?_ _ | refine blk_drew ?_ | refine blk_alloc ?_ _) | refine blk_far ?_ NB238_239.out _)); (with_reducible repeat (first | refine blk_drewN ?_ _ | refine blk_drew ?_ | refine blk_alloc ?_ _)); exact BK238.out⟩, ⟨by (repeat (first | (with_reducible first | refine blk_drewN ?_ _ | refine blk_drew ?_ | refine blk_alloc ?_ _) | refine blk_far ?_ NB239_240.out _)); (with_reducible repeat (first | refine blk_drewN ?_ _ | refine blk_drew ?_ | refine blk_alloc ?_ _)); refine blk_put (cs := #[.int .u32 0, .int .u32 0, .int .u32 0, .int .u32 0, .int .u32 0, .int .u32 0, .int .u32 0, .int .u32 0]) ?_ 7 _ rfl; (with_reducible repeat (first | refine blk_drewN ?_ _ | refine blk_drew ?_ | refine blk_alloc ?_ _)); refine blk_put (cs := #[.int .u32 0, .int .u32 0, .int .u32 0, .int .u32 0, .int .u32 0, .int .u32 0, .int .u32 0, .int .u32 0]) ?_ 6 _ rfl; (with_reducible repeat (first | refine blk_drewN ?_ _ | refine blk_drew ?_ | refine blk_alloc ?_ _)); refine blk_put (cs := #[.int .u32 0, .int .u32 0, .int .u32 0, .int .u32 0, .int .u32 0, .int .u32 0, .int .u32 0, .int .u32 0]) ?_ 5 _ rfl; (with_reducible repeat (first | refine blk_drewN ?_ _ | refine blk_drew ?_ | refine blk_alloc ?_ _)); refine blk_put (cs := #[.int .u32 0, .int .u32 0, .int .u32 0, .int .u32 0, .int .u32 0, .int .u32 0, .int .u32 0, .int .u32 0]) ?_ 4 _ rfl; (with_reducible repeat (first | refine blk_drewN ?_ _ | refine blk_drew ?_ | refine blk_alloc ?_ _)); refine blk_put (cs := #[.int .u32 0, .int .u32 0, .int .u32 0, .int .u32 0, .int .u32 0, .int .u32 0, .int .u32 0, .int .u32 0]) ?_ 3 _ rfl; (with_reducible repeat (first | refine blk_drewN ?_ _ | refine blk_drew ?_ | refine blk_alloc ?_ _)); refine blk_put (cs := #[.int .u32 0, .int .u32 0, .int .u32 0, .int .u32 0, .int .u32 0, .int .u32 0, .int .u32 0, .int .u32 0]) ?_ 2 _ rfl; (with_reducible repeat (first | refine blk_drewN ?_ _ | refine blk_drew ?_ | refine blk_alloc ?_ _)); refine blk_put (cs := #[.int .u32 0, .int .u32 0, .int .u32 0, .int .u32 0, .int .u32 0, .int .u32 0, .int .u32 0, .int .u32 0]) ?_ 1 _ rfl; (with_reducible repeat (first | refine blk_drewN ?_ _ | refine blk_drew ?_ | refine blk_alloc ?_ _)); refine blk_put (cs := #[.int .u32 0, .int .u32 0, .int .u32 0, .int .u32 0, .int .u32 0, .int .u32 0, .int .u32 0, .int .u32 0]) ?_ 0 _ rfl; (with_reducible repeat (first | refine blk_drewN ?_ _ | refine blk_drew ?_ | refine blk_alloc ?_ _)); exact BK239.out⟩, ⟨by (with_reducible repeat (first | refine blk_drewN ?_ _ | refine blk_drew ?_ | refine blk_alloc ?_ _)); refine blk_put (cs := #[.int .u32 0, .int .u32 0, .int .u32 0, .int .u32 0, .int .u32 0, .int .u32 0, .int .u32 0, .int .u32 0]) ?_ 7 _ rfl; (with_reducible repeat (first | refine blk_drewN ?_ _ | refine blk_drew ?_ | refine blk_alloc ?_ _)); refine blk_put (cs := #[.int .u32 0, .int .u32 0, .int .u32 0, .int .u32 0, .int .u32 0, .int .u32 0, .int .u32 0, .int .u32 0]) ?_ 6 _ rfl; (with_reducible repeat (first | refine blk_drewN ?_ _ | refine blk_drew ?_ | refine blk_alloc ?_ _)); refine blk_put (cs := #[.int .u32 0, .int .u32 0, .int .u32 0, .int .u32 0, .int .u32 0, .int .u32 0, .int .u32 0, .int .u32 0]) ?_ 5 _ rfl; (with_reducible repeat (first | refine blk_drewN ?_ _ | refine blk_drew ?_ | refine blk_alloc ?_ _)); refine blk_put (cs := #[.int .u32 0, .int .u32 0, .int .u32 0, .int .u32 0, .int .u32 0, .int .u32 0, .int .u32 0, .int .u32 0]) ?_ 4 _ rfl; (with_reducible repeat (first | refine blk_drewN ?_ _ | refine blk_drew ?_ | refine blk_alloc ?_ _)); refine blk_put (cs := #[.int .u32 0, .int .u32 0, .int .u32 0, .int .u32 0, .int .u32 0, .int .u32 0, .int .u32 0, .int .u32 0]) ?_ 3 _ rfl; (with_reducible repeat (first | refine blk_drewN ?_ _ | refine blk_drew ?_ | refine blk_alloc ?_ _)); refine blk_put (cs := #[.int .u32 0, .int .u32 0, .int .u32 0, .int .u32 0, .int .u32 0, .int .u32 0, .int .u32 0, .int .u32 0]) ?_ 2 _ rfl; (with_reducible repeat (first | refine blk_drewN ?_ _ | refine blk_drew ?_ | refine blk_alloc ?_ _)); refine blk_put (cs := #[.int .u32 0, .int .u32 0, .int .u32 0, .int .u32 0, .int .u32 0, .int .u32 0, .int .u32 0, .int .u32 0]) ?_ 1 _ rfl; (with_reducible repeat (first | refine blk_drewN ?_ _ | refine blk_drew ?_ | refine blk_alloc ?_ _)); refine blk_put (cs := #[.int .u32 0, .int .u32 0, .int .u32 0, .int .u32 0, .int .u32 0, .int .u32 0, .int .u32 0, .int .u32 0]) ?_ 0 _ rfl; (repeat (first | (with_reducible first | refine blk_drewN ?_ _ | refine blk_drew ?_ | refine blk_alloc ?_ _) | refine blk_far ?_ NB240_239.out _)); (with_reducible repeat (first | refine blk_drewN ?_ _ | refine blk_drew ?_ | refine blk_alloc ?_ _)); exact BK240.out⟩, ⟨by repeat (first | (with_reducible first | exact HB.out | apply below_alloc | apply pw_below_drewN | apply below_drew1 | refine below_set ?_ GE233.out | refine below_set ?_ GE234.out | refine below_set ?_ GE238.out | refine below_set ?_ GE239.out | refine below_set ?_ GE240.out) | exact HB.out)⟩⟩
   case round =>
    clear H'
    try clear c1
    try clear c2
    try clear p2
    try clear c4
    try clear c4b0
    try clear c4b1
    try clear c5
    try clear c5b0
    try clear c5b1
    try clear p6
    try clear c8
    try clear c14
    try clear c15
    try clear c19
    try clear c20
    try clear c21
    try clear c22
    try clear c24
    try clear c25
    try clear c26
    try clear hcz16_0
    try clear hcz16_1
    try clear hcz16_2
    try clear hcz16_3
    try clear hcz16_4
    try clear hcz16_5
    try clear hcz16_6
    try clear hcz23_0
    try clear hcz23_1
    try clear hcz23_2
    try clear hcz23_3
    try clear hcz23_4
    try clear hcz23_5
    try clear hcz23_6
    try clear hcz23_7
    try clear hcz27_0
    try clear hcz27_1
    try clear hcz27_2
    try clear hcz27_3
    try clear hcz27_4
    try clear hcz27_5
    try clear hcz27_6
    try clear hcz27_7
    try clear hcz9_0
    try clear hcz9_1
    try clear hcz9_2
    try clear hcz9_3
    try clear hfz16_0
    try clear hfz16_1
    try clear hfz16_2
    try clear hfz16_3
    try clear hfz16_4
    try clear hfz16_5
    try clear hfz16_6
    try clear hfz23_0
    try clear hfz23_1
    try clear hfz23_2
    try clear hfz23_3
    try clear hfz23_4
    try clear hfz23_5
    try clear hfz23_6
    try clear hfz23_7
    try clear hfz27_0
    try clear hfz27_1
    try clear hfz27_2
    try clear hfz27_3
    try clear hfz27_4
    try clear hfz27_5
    try clear hfz27_6
    try clear hfz27_7
    try clear hfz9_0
    try clear hfz9_1
    try clear hfz9_2
    try clear hfz9_3
    obtain ⟨x8_1, x239000_1, x240000_1, x240001_1, x240002_1, x240003_1, x240004_1, x240005_1, x240006_1, x240007_1, x241000_1, x241001_1, x241002_1, x241003_1, x241004_1, x241005_1, x241006_1, x241007_1, u239000, rfl, HA, HK1, HO_239000, BK233, BK234, BK238, BK239, BK240, HB⟩ := hrel
    cases gk with
    | zero => exact absurd HA.out (by simp [offertoryref09_Stats.l0])
    | succ k1 =>
     have H := HA.out
     clear HA
     simp only [offertoryref09_Stats.l0] at H
     by_cases c28 : x8_1 < (l1.length : Int)
     ·
      rw [if_pos c28] at H
      have c28b0 : decide (x8_1 < (l1.length : Int)) = true := decide_eq_true c28
      clear c28
      by_cases c29 : 0 ≤ x8_1
      ·
       rw [if_pos c29] at H
       have c29b0 : decide (0 ≤ x8_1) = true := decide_eq_true c29
       clear c29
       replace H := Option.bind_eq_some_iff.mp H
       obtain ⟨t255, A300, H⟩ := H
       replace H : (if 0 ≤ t255 then (if t255 < (x239000_1.length : Int) then ((offertoryref09_Clamp.f a0_0 a0_1 a0_2 l0_3 (rd l1 x8_1)).bind fun t259 => ((offertoryref09_Int.f t259).bind fun bt260 => ((offertoryref09_Add.f x240000_1 x240001_1 x240002_1 x240003_1 x240004_1 x240005_1 x240006_1 x240007_1 bt260.1 bt260.2.1 bt260.2.2.1 bt260.2.2.2.1 bt260.2.2.2.2.1 bt260.2.2.2.2.2.1 bt260.2.2.2.2.2.2.1 bt260.2.2.2.2.2.2.2).bind fun bt269 => ((offertoryref09_Mul.f bt260.1 bt260.2.1 bt260.2.2.1 bt260.2.2.2.1 bt260.2.2.2.2.1 bt260.2.2.2.2.2.1 bt260.2.2.2.2.2.2.1 bt260.2.2.2.2.2.2.2 bt260.1 bt260.2.1 bt260.2.2.1 bt260.2.2.2.1 bt260.2.2.2.2.1 bt260.2.2.2.2.2.1 bt260.2.2.2.2.2.2.1 bt260.2.2.2.2.2.2.2).bind fun bt277 => ((offertoryref09_Add.f x241000_1 x241001_1 x241002_1 x241003_1 x241004_1 x241005_1 x241006_1 x241007_1 bt277.1 bt277.2.1 bt277.2.2.1 bt277.2.2.2.1 bt277.2.2.2.2.1 bt277.2.2.2.2.2.1 bt277.2.2.2.2.2.2.1 bt277.2.2.2.2.2.2.2).bind fun bt285 => (offertoryref09_Stats.l0 k1 l1 (wrap64 (x8_1 + 1)) a0_0 a0_1 a0_2 l0_3 (x239000_1.set (t255 : Int).toNat (wrap64 ((rd x239000_1 t255) + 1))) (l1.length : Int) 0 0 0 0 false bt269.1 bt269.2.1 bt269.2.2.1 bt269.2.2.2.1 bt269.2.2.2.2.1 bt269.2.2.2.2.2.1 bt269.2.2.2.2.2.2.1 bt269.2.2.2.2.2.2.2 bt285.1 bt285.2.1 bt285.2.2.1 bt285.2.2.2.1 bt285.2.2.2.2.1 bt285.2.2.2.2.2.1 bt285.2.2.2.2.2.2.1 bt285.2.2.2.2.2.2.2)))))) else (none)) else (none)) = some (r1, r2, r3, r4, r5, r6, r7) := H
       have A30 := Aside0.mk A300
       clear A300
       by_cases c31 : 0 ≤ t255
       ·
        rw [if_pos c31] at H
        have c31b0 : decide (0 ≤ t255) = true := decide_eq_true c31
        clear c31
        by_cases c32 : t255 < (x239000_1.length : Int)
        ·
         rw [if_pos c32] at H
         have c32b0 : decide (t255 < (x239000_1.length : Int)) = true := decide_eq_true c32
         clear c32
         obtain ⟨y257, hy257⟩ : ∃ y_ : List Int, y_ = (x239000_1.set (t255 : Int).toNat (wrap64 ((rd x239000_1 t255) + 1))) := ⟨_, rfl⟩
         replace H : ((offertoryref09_Clamp.f a0_0 a0_1 a0_2 l0_3 (rd l1 x8_1)).bind fun t259 => ((offertoryref09_Int.f t259).bind fun bt260 => ((offertoryref09_Add.f x240000_1 x240001_1 x240002_1 x240003_1 x240004_1 x240005_1 x240006_1 x240007_1 bt260.1 bt260.2.1 bt260.2.2.1 bt260.2.2.2.1 bt260.2.2.2.2.1 bt260.2.2.2.2.2.1 bt260.2.2.2.2.2.2.1 bt260.2.2.2.2.2.2.2).bind fun bt269 => ((offertoryref09_Mul.f bt260.1 bt260.2.1 bt260.2.2.1 bt260.2.2.2.1 bt260.2.2.2.2.1 bt260.2.2.2.2.2.1 bt260.2.2.2.2.2.2.1 bt260.2.2.2.2.2.2.2 bt260.1 bt260.2.1 bt260.2.2.1 bt260.2.2.2.1 bt260.2.2.2.2.1 bt260.2.2.2.2.2.1 bt260.2.2.2.2.2.2.1 bt260.2.2.2.2.2.2.2).bind fun bt277 => ((offertoryref09_Add.f x241000_1 x241001_1 x241002_1 x241003_1 x241004_1 x241005_1 x241006_1 x241007_1 bt277.1 bt277.2.1 bt277.2.2.1 bt277.2.2.2.1 bt277.2.2.2.2.1 bt277.2.2.2.2.2.1 bt277.2.2.2.2.2.2.1 bt277.2.2.2.2.2.2.2).bind fun bt285 => (offertoryref09_Stats.l0 k1 l1 (wrap64 (x8_1 + 1)) a0_0 a0_1 a0_2 l0_3 y257 (l1.length : Int) 0 0 0 0 false bt269.1 bt269.2.1 bt269.2.2.1 bt269.2.2.2.1 bt269.2.2.2.2.1 bt269.2.2.2.2.2.1 bt269.2.2.2.2.2.2.1 bt269.2.2.2.2.2.2.2 bt285.1 bt285.2.1 bt285.2.2.1 bt285.2.2.2.1 bt285.2.2.2.2.1 bt285.2.2.2.2.2.1 bt285.2.2.2.2.2.2.1 bt285.2.2.2.2.2.2.2)))))) = some (r1, r2, r3, r4, r5, r6, r7) := by first | (rw [hy257]; with_reducible exact H) | (have H2_ := (Option.bind_some _ _).symm.trans H; rw [hy257]; with_reducible exact H2_) | (have H2_ := (Option.bind_some _ _).symm.trans H; with_reducible exact H2_) | with_reducible exact H | (rw [hy257]; exact H) | exact H
         have Ny257 := Aside0.mk hy257
         clear hy257
         replace H := Option.bind_eq_some_iff.mp H
         obtain ⟨t259, A340, H⟩ := H
         replace H : ((offertoryref09_Int.f t259).bind fun bt260 => ((offertoryref09_Add.f x240000_1 x240001_1 x240002_1 x240003_1 x240004_1 x240005_1 x240006_1 x240007_1 bt260.1 bt260.2.1 bt260.2.2.1 bt260.2.2.2.1 bt260.2.2.2.2.1 bt260.2.2.2.2.2.1 bt260.2.2.2.2.2.2.1 bt260.2.2.2.2.2.2.2).bind fun bt269 => ((offertoryref09_Mul.f bt260.1 bt260.2.1 bt260.2.2.1 bt260.2.2.2.1 bt260.2.2.2.2.1 bt260.2.2.2.2.2.1 bt260.2.2.2.2.2.2.1 bt260.2.2.2.2.2.2.2 bt260.1 bt260.2.1 bt260.2.2.1 bt260.2.2.2.1 bt260.2.2.2.2.1 bt260.2.2.2.2.2.1 bt260.2.2.2.2.2.2.1 bt260.2.2.2.2.2.2.2).bind fun bt277 => ((offertoryref09_Add.f x241000_1 x241001_1 x241002_1 x241003_1 x241004_1 x241005_1 x241006_1 x241007_1 bt277.1 bt277.2.1 bt277.2.2.1 bt277.2.2.2.1 bt277.2.2.2.2.1 bt277.2.2.2.2.2.1 bt277.2.2.2.2.2.2.1 bt277.2.2.2.2.2.2.2).bind fun bt285 => (offertoryref09_Stats.l0 k1 l1 (wrap64 (x8_1 + 1)) a0_0 a0_1 a0_2 l0_3 y257 (l1.length : Int) 0 0 0 0 false bt269.1 bt269.2.1 bt269.2.2.1 bt269.2.2.2.1 bt269.2.2.2.2.1 bt269.2.2.2.2.2.1 bt269.2.2.2.2.2.2.1 bt269.2.2.2.2.2.2.2 bt285.1 bt285.2.1 bt285.2.2.1 bt285.2.2.2.1 bt285.2.2.2.2.1 bt285.2.2.2.2.2.1 bt285.2.2.2.2.2.2.1 bt285.2.2.2.2.2.2.2))))) = some (r1, r2, r3, r4, r5, r6, r7) := H
         have A34 := Aside0.mk A340
         clear A340
         replace H := Option.bind_eq_some_iff.mp H
         obtain ⟨⟨t260, t261, t262, t263, t264, t265, t266, t267⟩, A350, H⟩ := H
         replace H : ((offertoryref09_Add.f x240000_1 x240001_1 x240002_1 x240003_1 x240004_1 x240005_1 x240006_1 x240007_1 t260 t261 t262 t263 t264 t265 t266 t267).bind fun bt269 => ((offertoryref09_Mul.f t260 t261 t262 t263 t264 t265 t266 t267 t260 t261 t262 t263 t264 t265 t266 t267).bind fun bt277 => ((offertoryref09_Add.f x241000_1 x241001_1 x241002_1 x241003_1 x241004_1 x241005_1 x241006_1 x241007_1 bt277.1 bt277.2.1 bt277.2.2.1 bt277.2.2.2.1 bt277.2.2.2.2.1 bt277.2.2.2.2.2.1 bt277.2.2.2.2.2.2.1 bt277.2.2.2.2.2.2.2).bind fun bt285 => (offertoryref09_Stats.l0 k1 l1 (wrap64 (x8_1 + 1)) a0_0 a0_1 a0_2 l0_3 y257 (l1.length : Int) 0 0 0 0 false bt269.1 bt269.2.1 bt269.2.2.1 bt269.2.2.2.1 bt269.2.2.2.2.1 bt269.2.2.2.2.2.1 bt269.2.2.2.2.2.2.1 bt269.2.2.2.2.2.2.2 bt285.1 bt285.2.1 bt285.2.2.1 bt285.2.2.2.1 bt285.2.2.2.2.1 bt285.2.2.2.2.2.1 bt285.2.2.2.2.2.2.1 bt285.2.2.2.2.2.2.2)))) = some (r1, r2, r3, r4, r5, r6, r7) := H
         have A35 := Aside0.mk A350
         clear A350
         replace H := Option.bind_eq_some_iff.mp H
         obtain ⟨⟨t269, t270, t271, t272, t273, t274, t275, t276⟩, A360, H⟩ := H
         replace H : ((offertoryref09_Mul.f t260 t261 t262 t263 t264 t265 t266 t267 t260 t261 t262 t263 t264 t265 t266 t267).bind fun bt277 => ((offertoryref09_Add.f x241000_1 x241001_1 x241002_1 x241003_1 x241004_1 x241005_1 x241006_1 x241007_1 bt277.1 bt277.2.1 bt277.2.2.1 bt277.2.2.2.1 bt277.2.2.2.2.1 bt277.2.2.2.2.2.1 bt277.2.2.2.2.2.2.1 bt277.2.2.2.2.2.2.2).bind fun bt285 => (offertoryref09_Stats.l0 k1 l1 (wrap64 (x8_1 + 1)) a0_0 a0_1 a0_2 l0_3 y257 (l1.length : Int) 0 0 0 0 false t269 t270 t271 t272 t273 t274 t275 t276 bt285.1 bt285.2.1 bt285.2.2.1 bt285.2.2.2.1 bt285.2.2.2.2.1 bt285.2.2.2.2.2.1 bt285.2.2.2.2.2.2.1 bt285.2.2.2.2.2.2.2))) = some (r1, r2, r3, r4, r5, r6, r7) := H
         have A36 := Aside0.mk A360
         clear A360
         replace H := Option.bind_eq_some_iff.mp H
         obtain ⟨⟨t277, t278, t279, t280, t281, t282, t283, t284⟩, A370, H⟩ := H
         replace H : ((offertoryref09_Add.f x241000_1 x241001_1 x241002_1 x241003_1 x241004_1 x241005_1 x241006_1 x241007_1 t277 t278 t279 t280 t281 t282 t283 t284).bind fun bt285 => (offertoryref09_Stats.l0 k1 l1 (wrap64 (x8_1 + 1)) a0_0 a0_1 a0_2 l0_3 y257 (l1.length : Int) 0 0 0 0 false t269 t270 t271 t272 t273 t274 t275 t276 bt285.1 bt285.2.1 bt285.2.2.1 bt285.2.2.2.1 bt285.2.2.2.2.1 bt285.2.2.2.2.2.1 bt285.2.2.2.2.2.2.1 bt285.2.2.2.2.2.2.2)) = some (r1, r2, r3, r4, r5, r6, r7) := H
         have A37 := Aside0.mk A370
         clear A370
         replace H := Option.bind_eq_some_iff.mp H
         obtain ⟨⟨t285, t286, t287, t288, t289, t290, t291, t292⟩, A380, H⟩ := H
         replace H : (offertoryref09_Stats.l0 k1 l1 (wrap64 (x8_1 + 1)) a0_0 a0_1 a0_2 l0_3 y257 (l1.length : Int) 0 0 0 0 false t269 t270 t271 t272 t273 t274 t275 t276 t285 t286 t287 t288 t289 t290 t291 t292) = some (r1, r2, r3, r4, r5, r6, r7) := H
         have A38 := Aside0.mk A380
         clear A380
         have H' := Aside0.mk H
         clear H
         try go_wp2
         have n0_ := Aside0.mk (Kd.R_drew HO_239000.out)
         have n1_ := Aside0.mk (blk_drew BK233.out)
         have n2_ := Aside0.mk (blk_drew BK234.out)
         have n3_ := Aside0.mk (blk_drew BK238.out)
         have n4_ := Aside0.mk (blk_drew BK239.out)
         have n5_ := Aside0.mk (blk_drew BK240.out)
         have n6_ := Aside0.mk (below_drew1 HB.out)
         clear HO_239000
         clear BK233
         clear BK234
         clear BK238
         clear BK239
         clear BK240
         clear HB
         have HO_239000 := n0_
         have BK233 := n1_
         have BK234 := n2_
         have BK238 := n3_
         have BK239 := n4_
         have BK240 := n5_
         have HB := n6_
         clear n0_ n1_ n2_ n3_ n4_ n5_ n6_
         have p254 : 0 ≤ (x8_1 : Int) := of_decide_eq_true (by first | (with_reducible assumption) | assumption)
         have q254 : x8_1 < (l1.length : Int) := of_decide_eq_true (by first | (with_reducible assumption) | assumption)
         obtain ⟨ad254, e254, hx254_0⟩ := Kd.at_int HR1.out x8_1 p254 q254
         have hw254_0 := hx254_0
         cases e254
         replace hx254_0 := (HB.out.cell (World.block_lt_of_cell? w _ hx254_0)).trans hx254_0
         replace p254 := eq_true p254
         replace q254 := eq_true q254
         obtain ⟨Ao41, co41, eo41⟩ := Kd.R_slice HO_239000.out
         (first | subst eo41 | (injection eo41 with f1_ f2_ f3_; have f4_ := f1_.symm; have f5_ := f3_.symm; clear f1_ f2_ f3_; subst f4_; subst f5_))
         have p256 : 0 ≤ (t255 : Int) := of_decide_eq_true (by first | (with_reducible assumption) | assumption)
         have q256 : t255 < (x239000_1.length : Int) := of_decide_eq_true (by first | (with_reducible assumption) | assumption)
         obtain ⟨ad256, e256, hx256_0⟩ := Kd.at_int (Kd.R_reads' HO_239000.out).2.2 t255 p256 q256
         cases e256
         replace p256 := eq_true p256
         replace q256 := eq_true q256
         refine start_ (n := 13) (S := fun w' => w'.cell? ⟨gb238, 0, none⟩ = some (.slice (some ad256) x239000_1.length co41) ∧ w'.cell? ⟨gb238, 1, none⟩ = some (.int .i64 (l1.length : Int)) ∧ w'.cell? ⟨gb238, 2, none⟩ = some (.int .u64 0) ∧ w'.cell? ⟨gb238, 3, none⟩ = some (.int .u64 0) ∧ w'.cell? ⟨gb238, 4, none⟩ = some (.int .u64 0) ∧ w'.cell? ⟨gb238, 5, none⟩ = some (.int .u64 0) ∧ w'.cell? ⟨gb238, 6, none⟩ = some (.bool false) ∧ w'.cell? ⟨gb233, 0, none⟩ = some (.int .i64 a0_0) ∧ w'.cell? ⟨gb233, 1, none⟩ = some (.int .i64 a0_1) ∧ w'.cell? ⟨gb233, 2, none⟩ = some (.int .i64 a0_2) ∧ w'.cell? ⟨gb233, 3, none⟩ = some (.slice A0_3 l0_3.length c0_3) ∧ w'.cell? (ad254.add (x8_1).toNat) = some (.int .i64 (rd l1 x8_1)) ∧ w'.cell? (ad256.add (t255).toNat) = some (.int .i64 (rd x239000_1 t255))) (ds := [12]) #[F, F, F, F, F, F, F, F, F, F, F, F, F] (by kernel_rfl) rfl rfl ⟨(blk_cell BK238.out 0).trans rfl, (blk_cell BK238.out 1).trans rfl, (blk_cell BK238.out 2).trans rfl, (blk_cell BK238.out 3).trans rfl, (blk_cell BK238.out 4).trans rfl, (blk_cell BK238.out 5).trans rfl, (blk_cell BK238.out 6).trans rfl, (blk_cell BK233.out 0).trans rfl, (blk_cell BK233.out 1).trans rfl, (blk_cell BK233.out 2).trans rfl, (blk_cell BK233.out 3).trans rfl, ((HB.out.cell (World.block_lt_of_cell? w _ hw254_0)).trans hw254_0), hx256_0⟩ (fun hHeld => ?_); refine with_tabW offertoryref09_Stats.tab6 offertoryref09_Stats.bits6 (fun HT_ HW_ => ?_)
         generalize wr.drew = w39 at HO_239000 BK233 BK234 BK238 BK239 BK240 HB hx254_0 hx256_0 hHeld ⊢
         refine pure_ (i := 0) (N := some 26) (v := ?_) (a' := ?_) #[T, F, F, F, F, F, F, F, F, F, F, F, F] rfl rfl (any_of HT_.out (by kernel_rfl)) (fun _ _ _ h => h) (Or.inl ⟨by rfl, ?_⟩) ?_ ?_
         rotate_left
         ·
          intro w'
          (try simp only [add_plain] at s0 s1 s2 s3 s4 s5 s6 s7 s8 s9 s10 s11 s12)
          go_simp
          with_reducible rfl
         rotate_left
         ·
          simp only [Act.put, List.setIfInBounds_toArray, List.set_cons_zero, List.set_cons_succ, i64_w, i32_w]
          rfl
         refine pure_ (i := 3) (N := some 29) (v := ?_) (a' := ?_) #[T, F, F, T, F, F, F, F, F, F, F, F, F] rfl rfl (any_of HT_.out (by kernel_rfl)) (fun _ _ _ h => h) (Or.inl ⟨by rfl, ?_⟩) ?_ ?_
         rotate_left
         ·
          intro w'
          (try simp only [add_plain] at s0 s1 s2 s3 s4 s5 s6 s7 s8 s9 s10 s11 s12)
          go_simp
          with_reducible rfl
         rotate_left
         ·
          simp only [Act.put, List.setIfInBounds_toArray, List.set_cons_zero, List.set_cons_succ, i64_w, i32_w]
          rfl
         refine pure_ (i := 4) (N := some 30) (v := ?_) (a' := ?_) #[T, F, F, T, T, F, F, F, F, F, F, F, F] rfl rfl (any_of HT_.out (by kernel_rfl)) (fun _ _ _ h => h) (Or.inl ⟨by rfl, ?_⟩) ?_ ?_
         rotate_left
         ·
          intro w'
          (try simp only [add_plain] at s0 s1 s2 s3 s4 s5 s6 s7 s8 s9 s10 s11 s12)
          go_simp
          with_reducible rfl
         rotate_left
         ·
          simp only [Act.put, List.setIfInBounds_toArray, List.set_cons_zero, List.set_cons_succ, i64_w, i32_w]
          rfl
         refine pure_ (i := 5) (N := some 31) (v := ?_) (a' := ?_) #[T, F, F, T, T, T, F, F, F, F, F, F, F] rfl rfl (any_of HT_.out (by kernel_rfl)) (fun _ _ _ h => h) (Or.inl ⟨by rfl, ?_⟩) ?_ ?_
         rotate_left
         ·
          intro w'
          (try simp only [add_plain] at s0 s1 s2 s3 s4 s5 s6 s7 s8 s9 s10 s11 s12)
          go_simp
          with_reducible rfl
         rotate_left
         ·
          simp only [Act.put, List.setIfInBounds_toArray, List.set_cons_zero, List.set_cons_succ, i64_w, i32_w]
          rfl
         refine take_ (i := 1) (N := some 27) (v := ?_) (a' := ?_) #[T, T, F, T, T, T, F, F, F, F, F, F, F] rfl rfl (take_ofW HT_.out HW_.out (by kernel_rfl)) (fun _ _ _ h => h) (Or.inl ⟨by rfl, ?_⟩) hHeld ?_ ?_
         rotate_left
         ·
          rintro w' ⟨s0, s1, s2, s3, s4, s5, s6, s7, s8, s9, s10, s11, s12⟩
          (try simp only [add_plain] at s0 s1 s2 s3 s4 s5 s6 s7 s8 s9 s10 s11 s12)
          go_simp
          with_reducible rfl
         rotate_left
         ·
          simp only [Act.put, List.setIfInBounds_toArray, List.set_cons_zero, List.set_cons_succ, i64_w, i32_w]
          rfl
         refine take_ (i := 2) (N := some 28) (v := ?_) (a' := ?_) #[T, T, T, T, T, T, F, F, F, F, F, F, F] rfl rfl (take_ofW HT_.out HW_.out (by kernel_rfl)) (fun _ _ _ h => h) (Or.inl ⟨by rfl, ?_⟩) hHeld ?_ ?_
         rotate_left
         ·
          rintro w' ⟨s0, s1, s2, s3, s4, s5, s6, s7, s8, s9, s10, s11, s12⟩
          (try simp only [add_plain] at s0 s1 s2 s3 s4 s5 s6 s7 s8 s9 s10 s11 s12)
          go_simp
          with_reducible rfl
         rotate_left
         ·
          simp only [Act.put, List.setIfInBounds_toArray, List.set_cons_zero, List.set_cons_succ, i64_w, i32_w]
          rfl
         refine take_ (i := 6) (N := some 32) (v := ?_) (a' := ?_) #[T, T, T, T, T, T, T, F, F, F, F, F, F] rfl rfl (take_ofW HT_.out HW_.out (by kernel_rfl)) (fun _ _ _ h => h) (Or.inl ⟨by rfl, ?_⟩) hHeld ?_ ?_
         rotate_left
         ·
          rintro w' ⟨s0, s1, s2, s3, s4, s5, s6, s7, s8, s9, s10, s11, s12⟩
          (try simp only [add_plain] at s0 s1 s2 s3 s4 s5 s6 s7 s8 s9 s10 s11 s12)
          go_simp
          with_reducible rfl
         rotate_left
         ·
          simp only [Act.put, List.setIfInBounds_toArray, List.set_cons_zero, List.set_cons_succ, i64_w, i32_w]
          rfl
         refine one_ (i := 7) (N := some 33) #[T, T, T, T, T, T, T, T, F, F, F, F, F] rfl rfl (one_of HT_.out (by kernel_rfl)) (by decide) (fun K hK => ?_)
         refine goes_ Try.func26 (by kernel_rfl) rfl #[.agg #[.int .i64 a0_0, .int .i64 a0_1, .int .i64 a0_2, .slice A0_3 l0_3.length c0_3], .int .i64 (rd l1 x8_1)] (by rfl) rfl rfl (by (try simp only [List.map_toArray, List.map_cons, List.map_nil]); first | done | rfl | (simp only [List.length_drop, List.length_take]; rfl)) ?_
         with_reducible refine (offertoryref09_Bin.calls k1 a0_0 a0_1 a0_2 _ _ l0_3 (rd l1 x8_1) t255 _ ?side1 ?side2 A30.out).mono ?_
         (case side1 => repeat (first | exact (Kd.C_below HR0_3.out HB.out) | (with_reducible refine Kd.C_alloc ?_ _) | (with_reducible refine Kd.C_drewN ?_ _) | (with_reducible refine Kd.C_drew ?_)))
         (case side2 => exact HC0_3.out)
         rintro e w40 ⟨rfl, hb⟩
         have HS12_ := (hb.cell (World.block_lt_of_cell? _ _ (hHeld.2.2.2.2.2.2.2.2.2.2.2.2))).trans (hHeld.2.2.2.2.2.2.2.2.2.2.2.2)
         refine ⟨_, rfl, ?_⟩
         have n0_ := Aside0.mk (Kd.R_below (by (with_reducible repeat (first | apply Kd.R_alloc | apply Kd.R_drewN | apply Kd.R_drew)); exact HO_239000.out) hb)
         have n1_ := offertoryref09_Stats.keepB BK233 hb
         have n2_ := offertoryref09_Stats.keepB BK234 hb
         have n3_ := offertoryref09_Stats.keepB BK238 hb
         have n4_ := offertoryref09_Stats.keepB BK239 hb
         have n5_ := offertoryref09_Stats.keepB BK240 hb
         have n6_ := Aside0.mk (below_step (by repeat (first | (with_reducible first | exact HB.out | apply below_alloc | apply pw_below_drewN | apply below_drew1 | refine below_set ?_ GE233.out | refine below_set ?_ GE234.out | refine below_set ?_ GE238.out | refine below_set ?_ GE239.out | refine below_set ?_ GE240.out) | exact HB.out)) hb)
         clear HO_239000
         clear BK233
         clear BK234
         clear BK238
         clear BK239
         clear BK240
         clear HB
         have HO_239000 := n0_
         have BK233 := n1_
         have BK234 := n2_
         have BK238 := n3_
         have BK239 := n4_
         have BK240 := n5_
         have HB := n6_
         clear n0_ n1_ n2_ n3_ n4_ n5_ n6_
         (try clear hb)
         (try clear hb2)
         (try clear hk)
         (try clear hi)
         have p33 : 0 ≤ (t255 : Int) := of_decide_eq_true (by first | (with_reducible assumption) | assumption)
         have q33 : (t255 : Int) < ((x239000_1.length : Int) : Int) := of_decide_eq_true (by first | (with_reducible assumption) | assumption)
         obtain ⟨go33, co33, eo33, gb33, gl33, cl33, HG33⟩ := Kd.R_form HO_239000.out (by omega)
         (first | cases eo33 | (injection eo33 with ea_ en_ ec_; (first | subst ea_ | (injection ea_ with ea_; subst ea_)); subst ec_; clear en_))
         have GB33 := Aside0.mk gb33
         have GG33 := Aside0.mk HG33
         clear gb33 gl33 HG33
         (first | simp only [add_plain] at hx256_0 | skip)
         obtain ⟨hx33_0, hf33_0⟩ := Kd.R_celln 0 HO_239000.out (t255 : Int) p33 q33
         replace p33 := eq_true p33
         replace q33 := eq_true q33
         have HP42 := Kd.R_putn HO_239000.out (t255 : Int) (wrap64 ((rd x239000_1 t255) + 1))
         rw [← Ny257.out] at HP42
         have HQ42 := Aside0.mk HP42
         clear HP42
         refine hK.out _ _ ⟨(blk_cell BK238.out 0).trans rfl, (blk_cell BK238.out 1).trans rfl, (blk_cell BK238.out 2).trans rfl, (blk_cell BK238.out 3).trans rfl, (blk_cell BK238.out 4).trans rfl, (blk_cell BK238.out 5).trans rfl, (blk_cell BK238.out 6).trans rfl, (blk_cell BK233.out 0).trans rfl, (blk_cell BK233.out 1).trans rfl, (blk_cell BK233.out 2).trans rfl, (blk_cell BK233.out 3).trans rfl, ((HB.out.cell (World.block_lt_of_cell? w _ hw254_0)).trans hw254_0), HS12_⟩ (fun hHeld => ?_)
         clear hK K
         refine norm_ (a' := ?_) ?_ ?_
         rotate_left
         ·
          show Act.put _ (some 33) _ = _
          simp only [Act.put, List.setIfInBounds_toArray, List.set_cons_zero, List.set_cons_succ, i64_w, i32_w]
          rfl
         refine pure_ (i := 8) (N := some 34) (v := ?_) (a' := ?_) #[T, T, T, T, T, T, T, T, T, F, F, F, F] rfl rfl (any_of HT_.out (by kernel_rfl)) (fun _ _ _ h => h) (Or.inl ⟨by rfl, ?_⟩) ?_ ?_
         rotate_left
         ·
          intro w'
          (try simp only [add_plain] at s0 s1 s2 s3 s4 s5 s6 s7 s8 s9 s10 s11 s12)
          go_simp
          with_reducible rfl
         rotate_left
         ·
          simp only [Act.put, List.setIfInBounds_toArray, List.set_cons_zero, List.set_cons_succ, i64_w, i32_w]
          rfl
         refine take_ (i := 9) (N := some 35) (v := ?_) (a' := ?_) #[T, T, T, T, T, T, T, T, T, T, F, F, F] rfl rfl (take_ofW HT_.out HW_.out (by kernel_rfl)) (fun _ _ _ h => h) (Or.inl ⟨by rfl, ?_⟩) hHeld ?_ ?_
         rotate_left
         ·
          rintro w' ⟨s0, s1, s2, s3, s4, s5, s6, s7, s8, s9, s10, s11, s12⟩
          (try simp only [add_plain] at s0 s1 s2 s3 s4 s5 s6 s7 s8 s9 s10 s11 s12)
          go_simp
          with_reducible rfl
         rotate_left
         ·
          simp only [Act.put, List.setIfInBounds_toArray, List.set_cons_zero, List.set_cons_succ, i64_w, i32_w]
          rfl
         refine pure_ (i := 10) (N := some 36) (v := ?_) (a' := ?_) #[T, T, T, T, T, T, T, T, T, T, T, F, F] rfl rfl (any_of HT_.out (by kernel_rfl)) (fun _ _ _ h => h) (Or.inl ⟨by rfl, ?_⟩) ?_ ?_
         rotate_left
         ·
          intro w'
          (try simp only [add_plain] at s0 s1 s2 s3 s4 s5 s6 s7 s8 s9 s10 s11 s12)
          go_simp
          with_reducible rfl
         rotate_left
         ·
          simp only [Act.put, List.setIfInBounds_toArray, List.set_cons_zero, List.set_cons_succ, i64_w, i32_w]
          rfl
         refine pure_ (i := 11) (N := some 37) (v := ?_) (a' := ?_) #[T, T, T, T, T, T, T, T, T, T, T, T, F] rfl rfl (any_of HT_.out (by kernel_rfl)) (fun _ _ _ h => h) (Or.inl ⟨by rfl, ?_⟩) ?_ ?_
         rotate_left
         ·
          intro w'
          (try simp only [add_plain] at s0 s1 s2 s3 s4 s5 s6 s7 s8 s9 s10 s11 s12)
          go_simp
          with_reducible rfl
         rotate_left
         ·
          simp only [Act.put, List.setIfInBounds_toArray, List.set_cons_zero, List.set_cons_succ, i64_w, i32_w]
          rfl
         refine last_ (i := 12) (N := none) #[T, T, T, T, T, T, T, T, T, T, T, T, T] rfl rfl (one_of HT_.out (by kernel_rfl)) (by decide) (fun K hK => ?_)
         refine skip_ (w1 := ?_) ?_ ?_ ?_ ?_
         rotate_left
         · rfl
         · rfl
         ·
           go_simp
           rfl
         refine hK.out _ _ ?_
         clear hK K
         refine done_ (done_of HT_.out (by kernel_rfl)) ?_
         have n0_ : Aside0 (Kd.R (Kd.int .i64) 3 (w40.setCell ⟨go33, (t255 : Int).toNat, none⟩ (.int .i64 (wrap64 ((rd x239000_1 t255) + 1)))) w.heap.size (fun _ => True) (.slice (some ⟨go33, 0, none⟩) x239000_1.length co41) y257) := ⟨by (with_reducible repeat (first | apply Kd.R_alloc | apply Kd.R_drewN | apply Kd.R_drew)); exact HQ42.out⟩
         have n1_ : Aside0 ((w40.setCell ⟨go33, (t255 : Int).toNat, none⟩ (.int .i64 (wrap64 ((rd x239000_1 t255) + 1)))).heap[gb233]? = some (.cells #[.int .i64 a0_0, .int .i64 a0_1, .int .i64 a0_2, .slice A0_3 l0_3.length c0_3] 38 (0, 0))) := ⟨by (with_reducible repeat (first | refine blk_drewN ?_ _ | refine blk_drew ?_ | refine blk_alloc ?_ _)); refine blk_far ?_ (by have h_ := Kd.R_ne HO_239000.out BK233.out (by decide); intro e_; exact h_ (by rw [e_]; rfl)) _; (with_reducible repeat (first | refine blk_drewN ?_ _ | refine blk_drew ?_ | refine blk_alloc ?_ _)); exact BK233.out⟩
         have n2_ : Aside0 ((w40.setCell ⟨go33, (t255 : Int).toNat, none⟩ (.int .i64 (wrap64 ((rd x239000_1 t255) + 1)))).heap[gb234]? = some (.cells #[.slice none 0 0, .int .i64 0, .int .u64 0, .int .u64 0, .int .u64 0, .int .u64 0, .bool false] 27 (0, 0))) := ⟨by (with_reducible repeat (first | refine blk_drewN ?_ _ | refine blk_drew ?_ | refine blk_alloc ?_ _)); refine blk_far ?_ (by have h_ := Kd.R_ne HO_239000.out BK234.out (by decide); intro e_; exact h_ (by rw [e_]; rfl)) _; (with_reducible repeat (first | refine blk_drewN ?_ _ | refine blk_drew ?_ | refine blk_alloc ?_ _)); exact BK234.out⟩
         have n3_ : Aside0 ((w40.setCell ⟨go33, (t255 : Int).toNat, none⟩ (.int .i64 (wrap64 ((rd x239000_1 t255) + 1)))).heap[gb238]? = some (.cells #[.slice (some ⟨go33, 0, none⟩) x239000_1.length co41, .int .i64 (l1.length : Int), .int .u64 0, .int .u64 0, .int .u64 0, .int .u64 0, .bool false] 27 (0, 0))) := ⟨by (with_reducible repeat (first | refine blk_drewN ?_ _ | refine blk_drew ?_ | refine blk_alloc ?_ _)); refine blk_far ?_ (by have h_ := Kd.R_ne HO_239000.out BK238.out (by decide); intro e_; exact h_ (by rw [e_]; rfl)) _; (with_reducible repeat (first | refine blk_drewN ?_ _ | refine blk_drew ?_ | refine blk_alloc ?_ _)); exact BK238.out⟩
         have n4_ : Aside0 ((w40.setCell ⟨go33, (t255 : Int).toNat, none⟩ (.int .i64 (wrap64 ((rd x239000_1 t255) + 1)))).heap[gb239]? = some (.cells #[.int .u32 x240000_1, .int .u32 x240001_1, .int .u32 x240002_1, .int .u32 x240003_1, .int .u32 x240004_1, .int .u32 x240005_1, .int .u32 x240006_1, .int .u32 x240007_1] 52 (0, 0))) := ⟨by (with_reducible repeat (first | refine blk_drewN ?_ _ | refine blk_drew ?_ | refine blk_alloc ?_ _)); refine blk_far ?_ (by have h_ := Kd.R_ne HO_239000.out BK239.out (by decide); intro e_; exact h_ (by rw [e_]; rfl)) _; (with_reducible repeat (first | refine blk_drewN ?_ _ | refine blk_drew ?_ | refine blk_alloc ?_ _)); exact BK239.out⟩
         have n5_ : Aside0 ((w40.setCell ⟨go33, (t255 : Int).toNat, none⟩ (.int .i64 (wrap64 ((rd x239000_1 t255) + 1)))).heap[gb240]? = some (.cells #[.int .u32 x241000_1, .int .u32 x241001_1, .int .u32 x241002_1, .int .u32 x241003_1, .int .u32 x241004_1, .int .u32 x241005_1, .int .u32 x241006_1, .int .u32 x241007_1] 52 (0, 0))) := ⟨by (with_reducible repeat (first | refine blk_drewN ?_ _ | refine blk_drew ?_ | refine blk_alloc ?_ _)); refine blk_far ?_ (by have h_ := Kd.R_ne HO_239000.out BK240.out (by decide); intro e_; exact h_ (by rw [e_]; rfl)) _; (with_reducible repeat (first | refine blk_drewN ?_ _ | refine blk_drew ?_ | refine blk_alloc ?_ _)); exact BK240.out⟩
         have n6_ : Aside0 (Below w.heap.size w (w40.setCell ⟨go33, (t255 : Int).toNat, none⟩ (.int .i64 (wrap64 ((rd x239000_1 t255) + 1))))) := ⟨by repeat (first | (with_reducible first | exact HB.out | apply below_alloc | apply pw_below_drewN | apply below_drew1 | refine below_set ?_ GB33.out | refine below_set ?_ GE233.out | refine below_set ?_ GE234.out | refine below_set ?_ GE238.out | refine below_set ?_ GE239.out | refine below_set ?_ GE240.out) | exact HB.out)⟩
         (try clear HO_239000)
         (try clear BK233)
         (try clear BK234)
         (try clear BK238)
         (try clear BK239)
         (try clear BK240)
         (try clear HB)
         generalize (w40.setCell ⟨go33, (t255 : Int).toNat, none⟩ (.int .i64 (wrap64 ((rd x239000_1 t255) + 1)))) = w43 at n0_ n1_ n2_ n3_ n4_ n5_ n6_ ⊢
         have HO_239000 := n0_
         have BK233 := n1_
         have BK234 := n2_
         have BK238 := n3_
         have BK239 := n4_
         have BK240 := n5_
         have HB := n6_
         clear n0_ n1_ n2_ n3_ n4_ n5_ n6_
         try go_wp2
         have n0_ := Aside0.mk (Kd.R_drew HO_239000.out)
         have n1_ := Aside0.mk (blk_drew BK233.out)
         have n2_ := Aside0.mk (blk_drew BK234.out)
         have n3_ := Aside0.mk (blk_drew BK238.out)
         have n4_ := Aside0.mk (blk_drew BK239.out)
         have n5_ := Aside0.mk (blk_drew BK240.out)
         have n6_ := Aside0.mk (below_drew1 HB.out)
         clear HO_239000
         clear BK233
         clear BK234
         clear BK238
         clear BK239
         clear BK240
         clear HB
         have HO_239000 := n0_
         have BK233 := n1_
         have BK234 := n2_
         have BK238 := n3_
         have BK239 := n4_
         have BK240 := n5_
         have HB := n6_
         clear n0_ n1_ n2_ n3_ n4_ n5_ n6_
         have p258 : 0 ≤ (x8_1 : Int) := of_decide_eq_true (by first | (with_reducible assumption) | assumption)
         have q258 : x8_1 < (l1.length : Int) := of_decide_eq_true (by first | (with_reducible assumption) | assumption)
         obtain ⟨ad258, e258, hx258_0⟩ := Kd.at_int HR1.out x8_1 p258 q258
         have hw258_0 := hx258_0
         obtain rfl : ad254 = ad258 := (by injection e258)
         replace hx258_0 := (HB.out.cell (World.block_lt_of_cell? w _ hx258_0)).trans hx258_0
         replace p258 := eq_true p258
         replace q258 := eq_true q258
         refine start_ (n := 9) (S := fun w' => True) (ds := []) #[F, F, F, F, F, F, F, F, F] (by kernel_rfl) rfl rfl trivial (fun hHeld => ?_); refine with_tabW offertoryref09_Stats.tab7 offertoryref09_Stats.bits7 (fun HT_ HW_ => ?_)
         generalize w43.drew = w44 at HO_239000 BK233 BK234 BK238 BK239 BK240 HB hx258_0 hHeld ⊢
         refine pure_ (i := 1) (N := some 39) (v := ?_) (a' := ?_) #[F, T, F, F, F, F, F, F, F] rfl rfl (any_of HT_.out (by kernel_rfl)) (fun _ _ _ h => h) (Or.inl ⟨by rfl, ?_⟩) ?_ ?_
         rotate_left
         ·
          intro w'
          go_simp
          with_reducible rfl
         rotate_left
         ·
          simp only [Act.put, List.setIfInBounds_toArray, List.set_cons_zero, List.set_cons_succ, i64_w, i32_w]
          rfl
         refine pure_ (i := 2) (N := some 40) (v := ?_) (a' := ?_) #[F, T, T, F, F, F, F, F, F] rfl rfl (any_of HT_.out (by kernel_rfl)) (fun _ _ _ h => h) (Or.inl ⟨by rfl, ?_⟩) ?_ ?_
         rotate_left
         ·
          intro w'
          go_simp
          with_reducible rfl
         rotate_left
         ·
          simp only [Act.put, List.setIfInBounds_toArray, List.set_cons_zero, List.set_cons_succ, i64_w, i32_w]
          rfl
         refine inv_at [0, 3, 4, 5, 6, 7, 8] (fun a0_ b a w' => ∃ (gb268 : Nat) (m7_ : Value), a = putSel a0_ b [(0, 38, .agg #[.int .i64 a0_0, .int .i64 a0_1, .int .i64 a0_2, .slice A0_3 l0_3.length c0_3]), (3, 41, .pointer (some (ad254.add (x8_1).toNat))), (4, 42, .int .i64 (rd l1 x8_1)), (5, 43, .int .i64 t259), (6, 44, .agg #[.int .u32 t260, .int .u32 t261, .int .u32 t262, .int .u32 t263, .int .u32 t264, .int .u32 t265, .int .u32 t266, .int .u32 t267]), (7, 9, m7_)] ∧ (Kd.R (Kd.int .i64) 3 w' w.heap.size (fun _ => True) (.slice (some ⟨go33, 0, none⟩) x239000_1.length co41) y257) ∧ (w'.heap[gb233]? = some (.cells #[.int .i64 a0_0, .int .i64 a0_1, .int .i64 a0_2, .slice A0_3 l0_3.length c0_3] 38 (0, 0))) ∧ (w'.heap[gb234]? = some (.cells #[.slice none 0 0, .int .i64 0, .int .u64 0, .int .u64 0, .int .u64 0, .int .u64 0, .bool false] 27 (0, 0))) ∧ (w'.heap[gb238]? = some (.cells #[.slice (some ⟨go33, 0, none⟩) x239000_1.length co41, .int .i64 (l1.length : Int), .int .u64 0, .int .u64 0, .int .u64 0, .int .u64 0, .bool false] 27 (0, 0))) ∧ (w'.heap[gb239]? = some (.cells #[.int .u32 x240000_1, .int .u32 x240001_1, .int .u32 x240002_1, .int .u32 x240003_1, .int .u32 x240004_1, .int .u32 x240005_1, .int .u32 x240006_1, .int .u32 x240007_1] 52 (0, 0))) ∧ (w'.heap[gb240]? = some (.cells #[.int .u32 x241000_1, .int .u32 x241001_1, .int .u32 x241002_1, .int .u32 x241003_1, .int .u32 x241004_1, .int .u32 x241005_1, .int .u32 x241006_1, .int .u32 x241007_1] 52 (0, 0))) ∧ (Below w.heap.size w w') ∧ (b 7 = true → b 8 = false → w'.heap[gb268]? = some (.cells #[.int .u32 0, .int .u32 0, .int .u32 0, .int .u32 0, .int .u32 0, .int .u32 0, .int .u32 0, .int .u32 0] 52 (0, 0))) ∧ (b 7 = true → w.heap.size ≤ gb268) ∧ (b 7 = true → w.heap.size ≤ gb268) ∧ (b 7 = true → gb233 ≠ gb268) ∧ (b 7 = true → gb268 ≠ gb233) ∧ (b 7 = true → gb234 ≠ gb268) ∧ (b 7 = true → gb268 ≠ gb234) ∧ (b 7 = true → gb238 ≠ gb268) ∧ (b 7 = true → gb268 ≠ gb238) ∧ (b 7 = true → gb239 ≠ gb268) ∧ (b 7 = true → gb268 ≠ gb239) ∧ (b 7 = true → gb240 ≠ gb268) ∧ (b 7 = true → gb268 ≠ gb240) ∧ (b 8 = true → w'.heap[gb268]? = some (.cells #[.int .u32 t260, .int .u32 t261, .int .u32 t262, .int .u32 t263, .int .u32 t264, .int .u32 t265, .int .u32 t266, .int .u32 t267] 52 (0, 0))) ∧ (b 7 = true → (m7_ : Value) = .pointer (some ⟨gb268, 0, none⟩))) HT_.out HW_.out (by kernel_rfl) (by kernel_rfl) ?_ ?_ ?_
         ·
          exact ⟨0, .bool false, by simp only [putSel, Bool.false_eq_true, if_false], HO_239000.out, BK233.out, BK234.out, BK238.out, BK239.out, BK240.out, HB.out, fun h_ => absurd h_ (by decide), fun h_ => absurd h_ (by decide), fun h_ => absurd h_ (by decide), fun h_ => absurd h_ (by decide), fun h_ => absurd h_ (by decide), fun h_ => absurd h_ (by decide), fun h_ => absurd h_ (by decide), fun h_ => absurd h_ (by decide), fun h_ => absurd h_ (by decide), fun h_ => absurd h_ (by decide), fun h_ => absurd h_ (by decide), fun h_ => absurd h_ (by decide), fun h_ => absurd h_ (by decide), fun h_ => absurd h_ (by decide), fun h_ => absurd h_ (by decide)⟩
         ·
          skip
          clear BK233 BK234 BK238 BK239 BK240 HB HO_239000
          refine steps_cons ?_ ?_
          ·
           rintro b a w' ⟨gb268, m7_, ha, Q_HO_239000, Q_BK233, Q_BK234, Q_BK238, Q_BK239, Q_BK240, Q_HB, Q_BK268, Q_GW268, Q_GE268, Q_NB233_268, Q_NB268_233, Q_NB234_268, Q_NB268_234, Q_NB238_268, Q_NB268_238, Q_NB239_268, Q_NB268_239, Q_NB240_268, Q_NB268_240, Q_BK268_e8, Q_X7_⟩ hb_ hon hoff
           refine ⟨_, rfl, fun K hK => ?_⟩
           have e2 : a.tmps[2]? = some (.pointer (some ⟨gb233, 0, none⟩)) := by rw [ha]; exact (putSel_off rfl).trans rfl
           replace ha := Aside0.mk ha
           have HO_239000 := Aside0.mk Q_HO_239000
           have BK233 := Aside0.mk Q_BK233
           have BK234 := Aside0.mk Q_BK234
           have BK238 := Aside0.mk Q_BK238
           have BK239 := Aside0.mk Q_BK239
           have BK240 := Aside0.mk Q_BK240
           have HB := Aside0.mk Q_HB
           have hc0_ : w'.cell? ⟨gb233, 0, none⟩ = some (.int .i64 a0_0) := (blk_cell BK233.out 0).trans rfl
           have hc1_ : w'.cell? ⟨gb233, 1, none⟩ = some (.int .i64 a0_1) := (blk_cell BK233.out 1).trans rfl
           have hc2_ : w'.cell? ⟨gb233, 2, none⟩ = some (.int .i64 a0_2) := (blk_cell BK233.out 2).trans rfl
           have hc3_ : w'.cell? ⟨gb233, 3, none⟩ = some (.slice A0_3 l0_3.length c0_3) := (blk_cell BK233.out 3).trans rfl
           refine value_ (w1 := w') (v := .agg #[.int .i64 a0_0, .int .i64 a0_1, .int .i64 a0_2, .slice A0_3 l0_3.length c0_3]) (by rfl) rfl ?_ ?_
           ·
            go_simp
            (try simp only [i64_w])
            try rfl
           refine hK.out _ _ ⟨gb268, m7_, (by rw [ha.out]; exact putSel_upk 0 hb_ rfl rfl rfl), Q_HO_239000, Q_BK233, Q_BK234, Q_BK238, Q_BK239, Q_BK240, Q_HB, Q_BK268, Q_GW268, Q_GE268, Q_NB233_268, Q_NB268_233, Q_NB234_268, Q_NB268_234, Q_NB238_268, Q_NB268_238, Q_NB239_268, Q_NB268_239, Q_NB240_268, Q_NB268_240, fun h0_ => absurd ((hoff 8 (by kernel_rfl)).symm.trans h0_) (by decide), Q_X7_⟩
          refine steps_cons ?_ ?_
          ·
           rintro b a w' ⟨gb268, m7_, ha, Q_HO_239000, Q_BK233, Q_BK234, Q_BK238, Q_BK239, Q_BK240, Q_HB, Q_BK268, Q_GW268, Q_GE268, Q_NB233_268, Q_NB268_233, Q_NB234_268, Q_NB268_234, Q_NB238_268, Q_NB268_238, Q_NB239_268, Q_NB268_239, Q_NB240_268, Q_NB268_240, Q_BK268_e8, Q_X7_⟩ hb_ hon hoff
           refine ⟨_, rfl, fun K hK => ?_⟩
           have e39 : a.tmps[39]? = some (.slice (some ad254) l1.length c1) := by rw [ha]; exact (putSel_off rfl).trans rfl
           have e40 : a.tmps[40]? = some (.int .i64 x8_1) := by rw [ha]; exact (putSel_off rfl).trans rfl
           replace ha := Aside0.mk ha
           have HO_239000 := Aside0.mk Q_HO_239000
           have BK233 := Aside0.mk Q_BK233
           have BK234 := Aside0.mk Q_BK234
           have BK238 := Aside0.mk Q_BK238
           have BK239 := Aside0.mk Q_BK239
           have BK240 := Aside0.mk Q_BK240
           have HB := Aside0.mk Q_HB
           have hs0_ : w'.cell? (ad254.add (x8_1).toNat) = some (.int .i64 (rd l1 x8_1)) := ((HB.out.cell (World.block_lt_of_cell? w _ hw258_0)).trans hw258_0)
           refine value_ (w1 := w') (v := .pointer (some (ad254.add (x8_1).toNat))) (by rfl) rfl ?_ ?_
           ·
            go_simp
            (try simp only [i64_w])
            try rfl
           refine hK.out _ _ ⟨gb268, m7_, (by rw [ha.out]; exact putSel_upk 1 hb_ rfl rfl rfl), Q_HO_239000, Q_BK233, Q_BK234, Q_BK238, Q_BK239, Q_BK240, Q_HB, Q_BK268, Q_GW268, Q_GE268, Q_NB233_268, Q_NB268_233, Q_NB234_268, Q_NB268_234, Q_NB238_268, Q_NB268_238, Q_NB239_268, Q_NB268_239, Q_NB240_268, Q_NB268_240, fun h0_ => absurd ((hoff 8 (by kernel_rfl)).symm.trans h0_) (by decide), Q_X7_⟩
          refine steps_cons ?_ ?_
          ·
           rintro b a w' ⟨gb268, m7_, ha, Q_HO_239000, Q_BK233, Q_BK234, Q_BK238, Q_BK239, Q_BK240, Q_HB, Q_BK268, Q_GW268, Q_GE268, Q_NB233_268, Q_NB268_233, Q_NB234_268, Q_NB268_234, Q_NB238_268, Q_NB268_238, Q_NB239_268, Q_NB268_239, Q_NB240_268, Q_NB268_240, Q_BK268_e8, Q_X7_⟩ hb_ hon hoff
           refine ⟨_, rfl, fun K hK => ?_⟩
           have e41 : a.tmps[41]? = some (.pointer (some (ad254.add (x8_1).toNat))) := by rw [ha]; exact putSel_on (e := (3, 41, .pointer (some (ad254.add (x8_1).toNat)))) 1 rfl rfl (hon 3 (by kernel_rfl)) rfl
           replace ha := Aside0.mk ha
           have HO_239000 := Aside0.mk Q_HO_239000
           have BK233 := Aside0.mk Q_BK233
           have BK234 := Aside0.mk Q_BK234
           have BK238 := Aside0.mk Q_BK238
           have BK239 := Aside0.mk Q_BK239
           have BK240 := Aside0.mk Q_BK240
           have HB := Aside0.mk Q_HB
           have hs0_ : w'.cell? (ad254.add (x8_1).toNat) = some (.int .i64 (rd l1 x8_1)) := ((HB.out.cell (World.block_lt_of_cell? w _ hw258_0)).trans hw258_0)
           refine value_ (w1 := w') (v := .int .i64 (rd l1 x8_1)) (by rfl) rfl ?_ ?_
           ·
            go_simp
            (try simp only [i64_w])
            try rfl
           refine hK.out _ _ ⟨gb268, m7_, (by rw [ha.out]; exact putSel_upk 2 hb_ rfl rfl rfl), Q_HO_239000, Q_BK233, Q_BK234, Q_BK238, Q_BK239, Q_BK240, Q_HB, Q_BK268, Q_GW268, Q_GE268, Q_NB233_268, Q_NB268_233, Q_NB234_268, Q_NB268_234, Q_NB238_268, Q_NB268_238, Q_NB239_268, Q_NB268_239, Q_NB240_268, Q_NB268_240, fun h0_ => absurd ((hoff 8 (by kernel_rfl)).symm.trans h0_) (by decide), Q_X7_⟩
          refine steps_cons ?_ ?_
          ·
           rintro b a w' ⟨gb268, m7_, ha, Q_HO_239000, Q_BK233, Q_BK234, Q_BK238, Q_BK239, Q_BK240, Q_HB, Q_BK268, Q_GW268, Q_GE268, Q_NB233_268, Q_NB268_233, Q_NB234_268, Q_NB268_234, Q_NB238_268, Q_NB268_238, Q_NB239_268, Q_NB268_239, Q_NB240_268, Q_NB268_240, Q_BK268_e8, Q_X7_⟩ hb_ hon hoff
           refine ⟨_, rfl, fun K hK => ?_⟩
           have e38 : a.tmps[38]? = some (.agg #[.int .i64 a0_0, .int .i64 a0_1, .int .i64 a0_2, .slice A0_3 l0_3.length c0_3]) := by rw [ha]; exact putSel_on (e := (0, 38, .agg #[.int .i64 a0_0, .int .i64 a0_1, .int .i64 a0_2, .slice A0_3 l0_3.length c0_3])) 0 rfl rfl (hon 0 (by kernel_rfl)) rfl
           have e42 : a.tmps[42]? = some (.int .i64 (rd l1 x8_1)) := by rw [ha]; exact putSel_on (e := (4, 42, .int .i64 (rd l1 x8_1))) 2 rfl rfl (hon 4 (by kernel_rfl)) rfl
           replace ha := Aside0.mk ha
           have HO_239000 := Aside0.mk Q_HO_239000
           have BK233 := Aside0.mk Q_BK233
           have BK234 := Aside0.mk Q_BK234
           have BK238 := Aside0.mk Q_BK238
           have BK239 := Aside0.mk Q_BK239
           have BK240 := Aside0.mk Q_BK240
           have HB := Aside0.mk Q_HB
           refine goes_ Try.func28 (by kernel_rfl) rfl #[.agg #[.int .i64 a0_0, .int .i64 a0_1, .int .i64 a0_2, .slice A0_3 l0_3.length c0_3], .int .i64 (rd l1 x8_1)] (by rfl) rfl rfl (by first | (simp only [List.map_toArray, List.map_cons, List.map_nil, Act.eval, Array.getD_eq_getD_getElem?, Option.getD_some, e38, e42]; done) | (simp only [List.map_toArray, List.map_cons, List.map_nil, Act.eval, Array.getD_eq_getD_getElem?, Option.getD_some, e38, e42]; rfl)) ?_
           with_reducible refine (offertoryref09_Clamp.calls a0_0 a0_1 a0_2 _ _ l0_3 (rd l1 x8_1) t259 _ ?side1 ?side2 A34.out).mono ?_
           (case side1 => repeat (first | exact (Kd.C_below HR0_3.out HB.out) | (with_reducible refine Kd.C_alloc ?_ _) | (with_reducible refine Kd.C_drewN ?_ _) | (with_reducible refine Kd.C_drew ?_)))
           (case side2 => exact HC0_3.out)
           rintro e w45 ⟨rfl, hb⟩
           refine ⟨_, rfl, ?_⟩
           have n0_ := Aside0.mk (Kd.R_below (by (with_reducible repeat (first | apply Kd.R_alloc | apply Kd.R_drewN | apply Kd.R_drew)); exact HO_239000.out) hb)
           have n1_ := offertoryref09_Stats.keepB BK233 hb
           have n2_ := offertoryref09_Stats.keepB BK234 hb
           have n3_ := offertoryref09_Stats.keepB BK238 hb
           have n4_ := offertoryref09_Stats.keepB BK239 hb
           have n5_ := offertoryref09_Stats.keepB BK240 hb
           have n6_ := Aside0.mk (below_step (by repeat (first | (with_reducible first | exact HB.out | apply below_alloc | apply pw_below_drewN | apply below_drew1 | refine below_set ?_ GE233.out | refine below_set ?_ GE234.out | refine below_set ?_ GE238.out | refine below_set ?_ GE239.out | refine below_set ?_ GE240.out) | exact HB.out)) hb)
           have z_BK268 := fun (h0_ : b 7 = true) (h1_ : b 8 = false) => (show w45.heap[gb268]? = some (.cells #[.int .u32 0, .int .u32 0, .int .u32 0, .int .u32 0, .int .u32 0, .int .u32 0, .int .u32 0, .int .u32 0] 52 (0, 0)) from by first | exact (blk_below (g := gb268) (o := .cells #[.int .u32 0, .int .u32 0, .int .u32 0, .int .u32 0, .int .u32 0, .int .u32 0, .int .u32 0, .int .u32 0] 52 (0, 0)) (by (with_reducible repeat (first | refine blk_drewN ?_ _ | refine blk_drew ?_ | refine blk_alloc ?_ _)); exact (Q_BK268 h0_ h1_)) hb))
           clear HO_239000
           clear BK233
           clear BK234
           clear BK238
           clear BK239
           clear BK240
           clear HB
           have HO_239000 := n0_
           have BK233 := n1_
           have BK234 := n2_
           have BK238 := n3_
           have BK239 := n4_
           have BK240 := n5_
           have HB := n6_
           clear n0_ n1_ n2_ n3_ n4_ n5_ n6_
           (try clear hb)
           (try clear hb2)
           (try clear hk)
           (try clear hi)
           refine hK.out _ _ ⟨gb268, m7_, (by rw [ha.out]; exact putSel_upk 3 hb_ rfl rfl rfl), (by (with_reducible repeat (first | apply Kd.R_alloc | apply Kd.R_drewN | apply Kd.R_drew)); exact HO_239000.out), (by (with_reducible repeat (first | refine blk_drewN ?_ _ | refine blk_drew ?_ | refine blk_alloc ?_ _)); exact BK233.out), (by (with_reducible repeat (first | refine blk_drewN ?_ _ | refine blk_drew ?_ | refine blk_alloc ?_ _)); exact BK234.out), (by (with_reducible repeat (first | refine blk_drewN ?_ _ | refine blk_drew ?_ | refine blk_alloc ?_ _)); exact BK238.out), (by (with_reducible repeat (first | refine blk_drewN ?_ _ | refine blk_drew ?_ | refine blk_alloc ?_ _)); exact BK239.out), (by (with_reducible repeat (first | refine blk_drewN ?_ _ | refine blk_drew ?_ | refine blk_alloc ?_ _)); exact BK240.out), (by repeat (first | (with_reducible first | exact HB.out | apply below_alloc | apply pw_below_drewN | apply below_drew1 | refine below_set ?_ GE233.out | refine below_set ?_ GE234.out | refine below_set ?_ GE238.out | refine below_set ?_ GE239.out | refine below_set ?_ GE240.out) | exact HB.out)), z_BK268, Q_GW268, Q_GE268, Q_NB233_268, Q_NB268_233, Q_NB234_268, Q_NB268_234, Q_NB238_268, Q_NB268_238, Q_NB239_268, Q_NB268_239, Q_NB240_268, Q_NB268_240, fun h0_ => absurd ((hoff 8 (by kernel_rfl)).symm.trans h0_) (by decide), Q_X7_⟩
          refine steps_cons ?_ ?_
          ·
           rintro b a w' ⟨gb268, m7_, ha, Q_HO_239000, Q_BK233, Q_BK234, Q_BK238, Q_BK239, Q_BK240, Q_HB, Q_BK268, Q_GW268, Q_GE268, Q_NB233_268, Q_NB268_233, Q_NB234_268, Q_NB268_234, Q_NB238_268, Q_NB268_238, Q_NB239_268, Q_NB268_239, Q_NB240_268, Q_NB268_240, Q_BK268_e8, Q_X7_⟩ hb_ hon hoff
           refine ⟨_, rfl, fun K hK => ?_⟩
           have e43 : a.tmps[43]? = some (.int .i64 t259) := by rw [ha]; exact putSel_on (e := (5, 43, .int .i64 t259)) 3 rfl rfl (hon 5 (by kernel_rfl)) rfl
           replace ha := Aside0.mk ha
           have HO_239000 := Aside0.mk Q_HO_239000
           have BK233 := Aside0.mk Q_BK233
           have BK234 := Aside0.mk Q_BK234
           have BK238 := Aside0.mk Q_BK238
           have BK239 := Aside0.mk Q_BK239
           have BK240 := Aside0.mk Q_BK240
           have HB := Aside0.mk Q_HB
           refine goes_ Try.func27 (by kernel_rfl) rfl #[.int .i64 t259] (by rfl) rfl rfl (by first | (simp only [List.map_toArray, List.map_cons, List.map_nil, Act.eval, Array.getD_eq_getD_getElem?, Option.getD_some, e43]; done) | (simp only [List.map_toArray, List.map_cons, List.map_nil, Act.eval, Array.getD_eq_getD_getElem?, Option.getD_some, e43]; rfl)) ?_
           with_reducible refine (offertoryref09_Int.calls t259 t260 t261 t262 t263 t264 t265 t266 t267 _ A35.out).mono ?_
           rintro e w47 ⟨rfl, hb⟩
           refine ⟨_, rfl, ?_⟩
           have n0_ := Aside0.mk (Kd.R_below (by (with_reducible repeat (first | apply Kd.R_alloc | apply Kd.R_drewN | apply Kd.R_drew)); exact HO_239000.out) hb)
           have n1_ := offertoryref09_Stats.keepB BK233 hb
           have n2_ := offertoryref09_Stats.keepB BK234 hb
           have n3_ := offertoryref09_Stats.keepB BK238 hb
           have n4_ := offertoryref09_Stats.keepB BK239 hb
           have n5_ := offertoryref09_Stats.keepB BK240 hb
           have n6_ := Aside0.mk (below_step (by repeat (first | (with_reducible first | exact HB.out | apply below_alloc | apply pw_below_drewN | apply below_drew1 | refine below_set ?_ GE233.out | refine below_set ?_ GE234.out | refine below_set ?_ GE238.out | refine below_set ?_ GE239.out | refine below_set ?_ GE240.out) | exact HB.out)) hb)
           have z_BK268 := fun (h0_ : b 7 = true) (h1_ : b 8 = false) => (show w47.heap[gb268]? = some (.cells #[.int .u32 0, .int .u32 0, .int .u32 0, .int .u32 0, .int .u32 0, .int .u32 0, .int .u32 0, .int .u32 0] 52 (0, 0)) from by first | exact (blk_below (g := gb268) (o := .cells #[.int .u32 0, .int .u32 0, .int .u32 0, .int .u32 0, .int .u32 0, .int .u32 0, .int .u32 0, .int .u32 0] 52 (0, 0)) (by (with_reducible repeat (first | refine blk_drewN ?_ _ | refine blk_drew ?_ | refine blk_alloc ?_ _)); exact (Q_BK268 h0_ h1_)) hb))
           clear HO_239000
           clear BK233
           clear BK234
           clear BK238
           clear BK239
           clear BK240
           clear HB
           have HO_239000 := n0_
           have BK233 := n1_
           have BK234 := n2_
           have BK238 := n3_
           have BK239 := n4_
           have BK240 := n5_
           have HB := n6_
           clear n0_ n1_ n2_ n3_ n4_ n5_ n6_
           (try clear hb)
           (try clear hb2)
           (try clear hk)
           (try clear hi)
           refine hK.out _ _ ⟨gb268, m7_, (by rw [ha.out]; exact putSel_upk 4 hb_ rfl rfl rfl), (by (with_reducible repeat (first | apply Kd.R_alloc | apply Kd.R_drewN | apply Kd.R_drew)); exact HO_239000.out), (by (with_reducible repeat (first | refine blk_drewN ?_ _ | refine blk_drew ?_ | refine blk_alloc ?_ _)); exact BK233.out), (by (with_reducible repeat (first | refine blk_drewN ?_ _ | refine blk_drew ?_ | refine blk_alloc ?_ _)); exact BK234.out), (by (with_reducible repeat (first | refine blk_drewN ?_ _ | refine blk_drew ?_ | refine blk_alloc ?_ _)); exact BK238.out), (by (with_reducible repeat (first | refine blk_drewN ?_ _ | refine blk_drew ?_ | refine blk_alloc ?_ _)); exact BK239.out), (by (with_reducible repeat (first | refine blk_drewN ?_ _ | refine blk_drew ?_ | refine blk_alloc ?_ _)); exact BK240.out), (by repeat (first | (with_reducible first | exact HB.out | apply below_alloc | apply pw_below_drewN | apply below_drew1 | refine below_set ?_ GE233.out | refine below_set ?_ GE234.out | refine below_set ?_ GE238.out | refine below_set ?_ GE239.out | refine below_set ?_ GE240.out) | exact HB.out)), z_BK268, Q_GW268, Q_GE268, Q_NB233_268, Q_NB268_233, Q_NB234_268, Q_NB268_234, Q_NB238_268, Q_NB268_238, Q_NB239_268, Q_NB268_239, Q_NB240_268, Q_NB268_240, fun h0_ => absurd ((hoff 8 (by kernel_rfl)).symm.trans h0_) (by decide), Q_X7_⟩
          refine steps_cons ?_ ?_
          ·
           rintro b a w' ⟨gb268, m7_, ha, Q_HO_239000, Q_BK233, Q_BK234, Q_BK238, Q_BK239, Q_BK240, Q_HB, Q_BK268, Q_GW268, Q_GE268, Q_NB233_268, Q_NB268_233, Q_NB234_268, Q_NB268_234, Q_NB238_268, Q_NB268_238, Q_NB239_268, Q_NB268_239, Q_NB240_268, Q_NB268_240, Q_BK268_e8, Q_X7_⟩ hb_ hon hoff
           refine ⟨_, rfl, fun K hK => ?_⟩
           replace ha := Aside0.mk ha
           have HO_239000 := Aside0.mk Q_HO_239000
           have BK233 := Aside0.mk Q_BK233
           have BK234 := Aside0.mk Q_BK234
           have BK238 := Aside0.mk Q_BK238
           have BK239 := Aside0.mk Q_BK239
           have BK240 := Aside0.mk Q_BK240
           have HB := Aside0.mk Q_HB
           refine box_step ?hg (N := 9) ?hd (cs := #[.int .u32 0, .int .u32 0, .int .u32 0, .int .u32 0, .int .u32 0, .int .u32 0, .int .u32 0, .int .u32 0]) (t := 52) ?hr ?_; (case hd => rfl); (case hg => rfl); (case hr => first | (go_simp; done) | (go_simp; rfl))
           intro gb268 hg w45 hbox hb
           have n0_ := Aside0.mk (Kd.R_below (by (with_reducible repeat (first | apply Kd.R_alloc | apply Kd.R_drewN | apply Kd.R_drew)); exact HO_239000.out) hb)
           have n1_ := offertoryref09_Stats.keepB BK233 hb
           have n2_ := offertoryref09_Stats.keepB BK234 hb
           have n3_ := offertoryref09_Stats.keepB BK238 hb
           have n4_ := offertoryref09_Stats.keepB BK239 hb
           have n5_ := offertoryref09_Stats.keepB BK240 hb
           have n6_ := Aside0.mk (below_step (by repeat (first | (with_reducible first | exact HB.out | apply below_alloc | apply pw_below_drewN | apply below_drew1 | refine below_set ?_ GE233.out | refine below_set ?_ GE234.out | refine below_set ?_ GE238.out | refine below_set ?_ GE239.out | refine below_set ?_ GE240.out) | exact HB.out)) hb)
           have n7_ := Aside0.mk (hbox)
           have n8_ := Aside0.mk ((by rw [hg]; exact (below_size (by repeat (first | (with_reducible first | exact HB.out | apply below_alloc | apply pw_below_drewN | apply below_drew1 | refine below_set ?_ GE233.out | refine below_set ?_ GE234.out | refine below_set ?_ GE238.out | refine below_set ?_ GE239.out | refine below_set ?_ GE240.out) | exact HB.out))) : w.heap.size ≤ gb268))
           have n9_ := Aside0.mk ((by rw [hg]; exact (below_size (by repeat (first | (with_reducible first | exact HB.out | apply below_alloc | apply pw_below_drewN | apply below_drew1 | refine below_set ?_ GE233.out | refine below_set ?_ GE234.out | refine below_set ?_ GE238.out | refine below_set ?_ GE239.out | refine below_set ?_ GE240.out) | exact HB.out))) : w.heap.size ≤ gb268))
           have n10_ := offertoryref09_Stats.neL BK233 hg
           have n11_ := offertoryref09_Stats.neG BK233 hg
           have n12_ := offertoryref09_Stats.neL BK234 hg
           have n13_ := offertoryref09_Stats.neG BK234 hg
           have n14_ := offertoryref09_Stats.neL BK238 hg
           have n15_ := offertoryref09_Stats.neG BK238 hg
           have n16_ := offertoryref09_Stats.neL BK239 hg
           have n17_ := offertoryref09_Stats.neG BK239 hg
           have n18_ := offertoryref09_Stats.neL BK240 hg
           have n19_ := offertoryref09_Stats.neG BK240 hg
           clear HO_239000
           clear BK233
           clear BK234
           clear BK238
           clear BK239
           clear BK240
           clear HB
           have HO_239000 := n0_
           have BK233 := n1_
           have BK234 := n2_
           have BK238 := n3_
           have BK239 := n4_
           have BK240 := n5_
           have HB := n6_
           have BK268 := n7_
           have GW268 := n8_
           have GE268 := n9_
           have NB233_268 := n10_
           have NB268_233 := n11_
           have NB234_268 := n12_
           have NB268_234 := n13_
           have NB238_268 := n14_
           have NB268_238 := n15_
           have NB239_268 := n16_
           have NB268_239 := n17_
           have NB240_268 := n18_
           have NB268_240 := n19_
           clear n0_ n1_ n2_ n3_ n4_ n5_ n6_ n7_ n8_ n9_ n10_ n11_ n12_ n13_ n14_ n15_ n16_ n17_ n18_ n19_
           clear hb hbox hg
           refine hK.out _ _ ⟨gb268, (.pointer (some ⟨gb268, 0, none⟩)), (by rw [ha.out]; exact putSel_upk 5 hb_ rfl rfl rfl), (by (with_reducible repeat (first | apply Kd.R_alloc | apply Kd.R_drewN | apply Kd.R_drew)); exact HO_239000.out), (by (with_reducible repeat (first | refine blk_drewN ?_ _ | refine blk_drew ?_ | refine blk_alloc ?_ _)); exact BK233.out), (by (with_reducible repeat (first | refine blk_drewN ?_ _ | refine blk_drew ?_ | refine blk_alloc ?_ _)); exact BK234.out), (by (with_reducible repeat (first | refine blk_drewN ?_ _ | refine blk_drew ?_ | refine blk_alloc ?_ _)); exact BK238.out), (by (with_reducible repeat (first | refine blk_drewN ?_ _ | refine blk_drew ?_ | refine blk_alloc ?_ _)); exact BK239.out), (by (with_reducible repeat (first | refine blk_drewN ?_ _ | refine blk_drew ?_ | refine blk_alloc ?_ _)); exact BK240.out), (by repeat (first | (with_reducible first | exact HB.out | apply below_alloc | apply pw_below_drewN | apply below_drew1 | refine below_set ?_ GE233.out | refine below_set ?_ GE234.out | refine below_set ?_ GE238.out | refine below_set ?_ GE239.out | refine below_set ?_ GE240.out | refine below_set ?_ GE268.out) | exact HB.out)), fun _ _ => (by (with_reducible repeat (first | refine blk_drewN ?_ _ | refine blk_drew ?_ | refine blk_alloc ?_ _)); exact BK268.out), fun _ => GW268.out, fun _ => GE268.out, fun _ => NB233_268.out, fun _ => NB268_233.out, fun _ => NB234_268.out, fun _ => NB268_234.out, fun _ => NB238_268.out, fun _ => NB268_238.out, fun _ => NB239_268.out, fun _ => NB268_239.out, fun _ => NB240_268.out, fun _ => NB268_240.out, fun h0_ => absurd ((hoff 8 (by kernel_rfl)).symm.trans h0_) (by decide), fun _ => rfl⟩
          refine steps_cons ?_ ?_
          ·
           rintro b a w' ⟨gb268, m7_, ha, Q_HO_239000, Q_BK233, Q_BK234, Q_BK238, Q_BK239, Q_BK240, Q_HB, Q_BK268, Q_GW268, Q_GE268, Q_NB233_268, Q_NB268_233, Q_NB234_268, Q_NB268_234, Q_NB238_268, Q_NB268_238, Q_NB239_268, Q_NB268_239, Q_NB240_268, Q_NB268_240, Q_BK268_e8, Q_X7_⟩ hb_ hon hoff
           refine ⟨_, rfl, fun K hK => ?_⟩
           have e9 : a.tmps[9]? = some (m7_) := by rw [ha]; exact putSel_on (e := (7, 9, m7_)) 5 rfl rfl (hon 7 (by kernel_rfl)) rfl
           rw [Q_X7_ (hon 7 (by kernel_rfl))] at e9
           have e44 : a.tmps[44]? = some (.agg #[.int .u32 t260, .int .u32 t261, .int .u32 t262, .int .u32 t263, .int .u32 t264, .int .u32 t265, .int .u32 t266, .int .u32 t267]) := by rw [ha]; exact putSel_on (e := (6, 44, .agg #[.int .u32 t260, .int .u32 t261, .int .u32 t262, .int .u32 t263, .int .u32 t264, .int .u32 t265, .int .u32 t266, .int .u32 t267])) 4 rfl rfl (hon 6 (by kernel_rfl)) rfl
           replace ha := Aside0.mk ha
           have HO_239000 := Aside0.mk Q_HO_239000
           have BK233 := Aside0.mk Q_BK233
           have BK234 := Aside0.mk Q_BK234
           have BK238 := Aside0.mk Q_BK238
           have BK239 := Aside0.mk Q_BK239
           have BK240 := Aside0.mk Q_BK240
           have HB := Aside0.mk Q_HB
           have BK268 := Aside0.mk (Q_BK268 (hon 7 (by kernel_rfl)) hb_)
           have GW268 := Aside0.mk (Q_GW268 (hon 7 (by kernel_rfl)))
           have GE268 := Aside0.mk (Q_GE268 (hon 7 (by kernel_rfl)))
           have NB233_268 := Aside0.mk (Q_NB233_268 (hon 7 (by kernel_rfl)))
           have NB268_233 := Aside0.mk (Q_NB268_233 (hon 7 (by kernel_rfl)))
           have NB234_268 := Aside0.mk (Q_NB234_268 (hon 7 (by kernel_rfl)))
           have NB268_234 := Aside0.mk (Q_NB268_234 (hon 7 (by kernel_rfl)))
           have NB238_268 := Aside0.mk (Q_NB238_268 (hon 7 (by kernel_rfl)))
           have NB268_238 := Aside0.mk (Q_NB268_238 (hon 7 (by kernel_rfl)))
           have NB239_268 := Aside0.mk (Q_NB239_268 (hon 7 (by kernel_rfl)))
           have NB268_239 := Aside0.mk (Q_NB268_239 (hon 7 (by kernel_rfl)))
           have NB240_268 := Aside0.mk (Q_NB240_268 (hon 7 (by kernel_rfl)))
           have NB268_240 := Aside0.mk (Q_NB268_240 (hon 7 (by kernel_rfl)))
           have hs49 : w'.cell? ⟨gb268, 0, none⟩ = some (.int .u32 0) := (blk_cell BK268.out 0).trans rfl
           have hfs49 := blk_frozen BK268.out 0
           have hns49_0 := NB233_268.out
           have hns49_1 := NB234_268.out
           have hns49_2 := NB238_268.out
           have hns49_3 := NB239_268.out
           have hns49_4 := NB240_268.out
           have hms49_0 := NB268_233.out
           have hms49_1 := NB268_234.out
           have hms49_2 := NB268_238.out
           have hms49_3 := NB268_239.out
           have hms49_4 := NB268_240.out
           have hs50 : w'.cell? ⟨gb268, 1, none⟩ = some (.int .u32 0) := (blk_cell BK268.out 1).trans rfl
           have hfs50 := blk_frozen BK268.out 1
           have hns50_0 := NB233_268.out
           have hns50_1 := NB234_268.out
           have hns50_2 := NB238_268.out
           have hns50_3 := NB239_268.out
           have hns50_4 := NB240_268.out
           have hms50_0 := NB268_233.out
           have hms50_1 := NB268_234.out
           have hms50_2 := NB268_238.out
           have hms50_3 := NB268_239.out
           have hms50_4 := NB268_240.out
           have hs51 : w'.cell? ⟨gb268, 2, none⟩ = some (.int .u32 0) := (blk_cell BK268.out 2).trans rfl
           have hfs51 := blk_frozen BK268.out 2
           have hns51_0 := NB233_268.out
           have hns51_1 := NB234_268.out
           have hns51_2 := NB238_268.out
           have hns51_3 := NB239_268.out
           have hns51_4 := NB240_268.out
           have hms51_0 := NB268_233.out
           have hms51_1 := NB268_234.out
           have hms51_2 := NB268_238.out
           have hms51_3 := NB268_239.out
           have hms51_4 := NB268_240.out
           have hs52 : w'.cell? ⟨gb268, 3, none⟩ = some (.int .u32 0) := (blk_cell BK268.out 3).trans rfl
           have hfs52 := blk_frozen BK268.out 3
           have hns52_0 := NB233_268.out
           have hns52_1 := NB234_268.out
           have hns52_2 := NB238_268.out
           have hns52_3 := NB239_268.out
           have hns52_4 := NB240_268.out
           have hms52_0 := NB268_233.out
           have hms52_1 := NB268_234.out
           have hms52_2 := NB268_238.out
           have hms52_3 := NB268_239.out
           have hms52_4 := NB268_240.out
           have hs53 : w'.cell? ⟨gb268, 4, none⟩ = some (.int .u32 0) := (blk_cell BK268.out 4).trans rfl
           have hfs53 := blk_frozen BK268.out 4
           have hns53_0 := NB233_268.out
           have hns53_1 := NB234_268.out
           have hns53_2 := NB238_268.out
           have hns53_3 := NB239_268.out
           have hns53_4 := NB240_268.out
           have hms53_0 := NB268_233.out
           have hms53_1 := NB268_234.out
           have hms53_2 := NB268_238.out
           have hms53_3 := NB268_239.out
           have hms53_4 := NB268_240.out
           have hs54 : w'.cell? ⟨gb268, 5, none⟩ = some (.int .u32 0) := (blk_cell BK268.out 5).trans rfl
           have hfs54 := blk_frozen BK268.out 5
           have hns54_0 := NB233_268.out
           have hns54_1 := NB234_268.out
           have hns54_2 := NB238_268.out
           have hns54_3 := NB239_268.out
           have hns54_4 := NB240_268.out
           have hms54_0 := NB268_233.out
           have hms54_1 := NB268_234.out
           have hms54_2 := NB268_238.out
           have hms54_3 := NB268_239.out
           have hms54_4 := NB268_240.out
           have hs55 : w'.cell? ⟨gb268, 6, none⟩ = some (.int .u32 0) := (blk_cell BK268.out 6).trans rfl
           have hfs55 := blk_frozen BK268.out 6
           have hns55_0 := NB233_268.out
           have hns55_1 := NB234_268.out
           have hns55_2 := NB238_268.out
           have hns55_3 := NB239_268.out
           have hns55_4 := NB240_268.out
           have hms55_0 := NB268_233.out
           have hms55_1 := NB268_234.out
           have hms55_2 := NB268_238.out
           have hms55_3 := NB268_239.out
           have hms55_4 := NB268_240.out
           have hs56 : w'.cell? ⟨gb268, 7, none⟩ = some (.int .u32 0) := (blk_cell BK268.out 7).trans rfl
           have hfs56 := blk_frozen BK268.out 7
           have hns56_0 := NB233_268.out
           have hns56_1 := NB234_268.out
           have hns56_2 := NB238_268.out
           have hns56_3 := NB239_268.out
           have hns56_4 := NB240_268.out
           have hms56_0 := NB268_233.out
           have hms56_1 := NB268_234.out
           have hms56_2 := NB268_238.out
           have hms56_3 := NB268_239.out
           have hms56_4 := NB268_240.out
           refine skip_ (w1 := ?_) ?_ ?_ ?_ ?_
           rotate_left
           · rfl
           · rfl
           ·
             go_simp
             rfl
           refine hK.out _ _ ⟨gb268, m7_, (by rw [ha.out]; exact putSel_none (v := undef) rfl), (by (with_reducible repeat (first | apply Kd.R_alloc | apply Kd.R_drewN | apply Kd.R_drew)); exact Kd.R_mono (Kd.R_far (p := ⟨gb268, 7, none⟩) (Kd.R_far (p := ⟨gb268, 6, none⟩) (Kd.R_far (p := ⟨gb268, 5, none⟩) (Kd.R_far (p := ⟨gb268, 4, none⟩) (Kd.R_far (p := ⟨gb268, 3, none⟩) (Kd.R_far (p := ⟨gb268, 2, none⟩) (Kd.R_far (p := ⟨gb268, 1, none⟩) (Kd.R_far (p := ⟨gb268, 0, none⟩) (Kd.R_types HO_239000.out BK268.out (by decide)) (fun _ hk => hk.2) (.int .u32 t260)) (fun _ hk => hk.2) (.int .u32 t261)) (fun _ hk => hk.2) (.int .u32 t262)) (fun _ hk => hk.2) (.int .u32 t263)) (fun _ hk => hk.2) (.int .u32 t264)) (fun _ hk => hk.2) (.int .u32 t265)) (fun _ hk => hk.2) (.int .u32 t266)) (fun _ hk => hk.2) (.int .u32 t267)) (fun _ hk => trivial)), (by (repeat (first | (with_reducible first | refine blk_drewN ?_ _ | refine blk_drew ?_ | refine blk_alloc ?_ _) | refine blk_far ?_ NB233_268.out _)); (with_reducible repeat (first | refine blk_drewN ?_ _ | refine blk_drew ?_ | refine blk_alloc ?_ _)); exact BK233.out), (by (repeat (first | (with_reducible first | refine blk_drewN ?_ _ | refine blk_drew ?_ | refine blk_alloc ?_ _) | refine blk_far ?_ NB234_268.out _)); (with_reducible repeat (first | refine blk_drewN ?_ _ | refine blk_drew ?_ | refine blk_alloc ?_ _)); exact BK234.out), (by (repeat (first | (with_reducible first | refine blk_drewN ?_ _ | refine blk_drew ?_ | refine blk_alloc ?_ _) | refine blk_far ?_ NB238_268.out _)); (with_reducible repeat (first | refine blk_drewN ?_ _ | refine blk_drew ?_ | refine blk_alloc ?_ _)); exact BK238.out), (by (repeat (first | (with_reducible first | refine blk_drewN ?_ _ | refine blk_drew ?_ | refine blk_alloc ?_ _) | refine blk_far ?_ NB239_268.out _)); (with_reducible repeat (first | refine blk_drewN ?_ _ | refine blk_drew ?_ | refine blk_alloc ?_ _)); exact BK239.out), (by (repeat (first | (with_reducible first | refine blk_drewN ?_ _ | refine blk_drew ?_ | refine blk_alloc ?_ _) | refine blk_far ?_ NB240_268.out _)); (with_reducible repeat (first | refine blk_drewN ?_ _ | refine blk_drew ?_ | refine blk_alloc ?_ _)); exact BK240.out), (by repeat (first | (with_reducible first | exact HB.out | apply below_alloc | apply pw_below_drewN | apply below_drew1 | refine below_set ?_ GE233.out | refine below_set ?_ GE234.out | refine below_set ?_ GE238.out | refine below_set ?_ GE239.out | refine below_set ?_ GE240.out | refine below_set ?_ GE268.out) | exact HB.out)), fun _ h1_ => absurd ((up_self b 8).symm.trans h1_) (by decide), fun _ => GW268.out, fun _ => GE268.out, fun _ => NB233_268.out, fun _ => NB268_233.out, fun _ => NB234_268.out, fun _ => NB268_234.out, fun _ => NB238_268.out, fun _ => NB268_238.out, fun _ => NB239_268.out, fun _ => NB268_239.out, fun _ => NB240_268.out, fun _ => NB268_240.out, fun _ => (by (with_reducible repeat (first | refine blk_drewN ?_ _ | refine blk_drew ?_ | refine blk_alloc ?_ _)); refine blk_put (cs := #[.int .u32 t260, .int .u32 t261, .int .u32 t262, .int .u32 t263, .int .u32 t264, .int .u32 t265, .int .u32 t266, .int .u32 0]) ?_ 7 _ rfl; (with_reducible repeat (first | refine blk_drewN ?_ _ | refine blk_drew ?_ | refine blk_alloc ?_ _)); refine blk_put (cs := #[.int .u32 t260, .int .u32 t261, .int .u32 t262, .int .u32 t263, .int .u32 t264, .int .u32 t265, .int .u32 0, .int .u32 0]) ?_ 6 _ rfl; (with_reducible repeat (first | refine blk_drewN ?_ _ | refine blk_drew ?_ | refine blk_alloc ?_ _)); refine blk_put (cs := #[.int .u32 t260, .int .u32 t261, .int .u32 t262, .int .u32 t263, .int .u32 t264, .int .u32 0, .int .u32 0, .int .u32 0]) ?_ 5 _ rfl; (with_reducible repeat (first | refine blk_drewN ?_ _ | refine blk_drew ?_ | refine blk_alloc ?_ _)); refine blk_put (cs := #[.int .u32 t260, .int .u32 t261, .int .u32 t262, .int .u32 t263, .int .u32 0, .int .u32 0, .int .u32 0, .int .u32 0]) ?_ 4 _ rfl; (with_reducible repeat (first | refine blk_drewN ?_ _ | refine blk_drew ?_ | refine blk_alloc ?_ _)); refine blk_put (cs := #[.int .u32 t260, .int .u32 t261, .int .u32 t262, .int .u32 0, .int .u32 0, .int .u32 0, .int .u32 0, .int .u32 0]) ?_ 3 _ rfl; (with_reducible repeat (first | refine blk_drewN ?_ _ | refine blk_drew ?_ | refine blk_alloc ?_ _)); refine blk_put (cs := #[.int .u32 t260, .int .u32 t261, .int .u32 0, .int .u32 0, .int .u32 0, .int .u32 0, .int .u32 0, .int .u32 0]) ?_ 2 _ rfl; (with_reducible repeat (first | refine blk_drewN ?_ _ | refine blk_drew ?_ | refine blk_alloc ?_ _)); refine blk_put (cs := #[.int .u32 t260, .int .u32 0, .int .u32 0, .int .u32 0, .int .u32 0, .int .u32 0, .int .u32 0, .int .u32 0]) ?_ 1 _ rfl; (with_reducible repeat (first | refine blk_drewN ?_ _ | refine blk_drew ?_ | refine blk_alloc ?_ _)); refine blk_put (cs := #[.int .u32 0, .int .u32 0, .int .u32 0, .int .u32 0, .int .u32 0, .int .u32 0, .int .u32 0, .int .u32 0]) ?_ 0 _ rfl; (with_reducible repeat (first | refine blk_drewN ?_ _ | refine blk_drew ?_ | refine blk_alloc ?_ _)); exact BK268.out), Q_X7_⟩
          exact steps_nil
         rintro b a w56 hall ⟨gb268, m7_, ha, Q_HO_239000, Q_BK233, Q_BK234, Q_BK238, Q_BK239, Q_BK240, Q_HB, Q_BK268, Q_GW268, Q_GE268, Q_NB233_268, Q_NB268_233, Q_NB234_268, Q_NB268_234, Q_NB238_268, Q_NB268_238, Q_NB239_268, Q_NB268_239, Q_NB240_268, Q_NB268_240, Q_BK268_e8, Q_X7_⟩
         clear BK233 BK234 BK238 BK239 BK240 HB HO_239000
         have hb0_ := hall 0 (by kernel_rfl)
         have hb3_ := hall 3 (by kernel_rfl)
         have hb4_ := hall 4 (by kernel_rfl)
         have hb5_ := hall 5 (by kernel_rfl)
         have hb6_ := hall 6 (by kernel_rfl)
         have hb7_ := hall 7 (by kernel_rfl)
         have hb8_ := hall 8 (by kernel_rfl)
         subst ha
         obtain rfl := Q_X7_ hb7_
         simp only [putSel, hb0_, hb3_, hb4_, hb5_, hb6_, hb7_, hb8_, if_true, Act.put, List.setIfInBounds_toArray, List.set_cons_zero, List.set_cons_succ]
         have HO_239000 := Aside0.mk Q_HO_239000
         clear Q_HO_239000
         have BK233 := Aside0.mk Q_BK233
         clear Q_BK233
         have BK234 := Aside0.mk Q_BK234
         clear Q_BK234
         have BK238 := Aside0.mk Q_BK238
         clear Q_BK238
         have BK239 := Aside0.mk Q_BK239
         clear Q_BK239
         have BK240 := Aside0.mk Q_BK240
         clear Q_BK240
         have HB := Aside0.mk Q_HB
         clear Q_HB
         clear Q_BK268
         have GW268 := Aside0.mk (Q_GW268 hb7_)
         clear Q_GW268
         have GE268 := Aside0.mk (Q_GE268 hb7_)
         clear Q_GE268
         have NB233_268 := Aside0.mk (Q_NB233_268 hb7_)
         clear Q_NB233_268
         have NB268_233 := Aside0.mk (Q_NB268_233 hb7_)
         clear Q_NB268_233
         have NB234_268 := Aside0.mk (Q_NB234_268 hb7_)
         clear Q_NB234_268
         have NB268_234 := Aside0.mk (Q_NB268_234 hb7_)
         clear Q_NB268_234
         have NB238_268 := Aside0.mk (Q_NB238_268 hb7_)
         clear Q_NB238_268
         have NB268_238 := Aside0.mk (Q_NB268_238 hb7_)
         clear Q_NB268_238
         have NB239_268 := Aside0.mk (Q_NB239_268 hb7_)
         clear Q_NB239_268
         have NB268_239 := Aside0.mk (Q_NB268_239 hb7_)
         clear Q_NB268_239
         have NB240_268 := Aside0.mk (Q_NB240_268 hb7_)
         clear Q_NB240_268
         have NB268_240 := Aside0.mk (Q_NB268_240 hb7_)
         clear Q_NB268_240
         have BK268 := Aside0.mk (Q_BK268_e8 hb8_)
         clear Q_BK268_e8
         clear hall hb0_ hb3_ hb4_ hb5_ hb6_ hb7_ hb8_
         try go_wp2
         have n0_ := Aside0.mk (Kd.R_drew HO_239000.out)
         have n1_ := Aside0.mk (blk_drew BK233.out)
         have n2_ := Aside0.mk (blk_drew BK234.out)
         have n3_ := Aside0.mk (blk_drew BK238.out)
         have n4_ := Aside0.mk (blk_drew BK239.out)
         have n5_ := Aside0.mk (blk_drew BK240.out)
         have n6_ := Aside0.mk (blk_drew BK268.out)
         have n7_ := Aside0.mk (below_drew1 HB.out)
         clear HO_239000
         clear BK233
         clear BK234
         clear BK238
         clear BK239
         clear BK240
         clear BK268
         clear HB
         have HO_239000 := n0_
         have BK233 := n1_
         have BK234 := n2_
         have BK238 := n3_
         have BK239 := n4_
         have BK240 := n5_
         have BK268 := n6_
         have HB := n7_
         clear n0_ n1_ n2_ n3_ n4_ n5_ n6_ n7_
         refine start_ (n := 10) (S := fun w' => w'.cell? ⟨gb239, 0, none⟩ = some (.int .u32 x240000_1) ∧ w'.cell? ⟨gb239, 1, none⟩ = some (.int .u32 x240001_1) ∧ w'.cell? ⟨gb239, 2, none⟩ = some (.int .u32 x240002_1) ∧ w'.cell? ⟨gb239, 3, none⟩ = some (.int .u32 x240003_1) ∧ w'.cell? ⟨gb239, 4, none⟩ = some (.int .u32 x240004_1) ∧ w'.cell? ⟨gb239, 5, none⟩ = some (.int .u32 x240005_1) ∧ w'.cell? ⟨gb239, 6, none⟩ = some (.int .u32 x240006_1) ∧ w'.cell? ⟨gb239, 7, none⟩ = some (.int .u32 x240007_1) ∧ w'.cell? ⟨gb268, 0, none⟩ = some (.int .u32 t260) ∧ w'.cell? ⟨gb268, 1, none⟩ = some (.int .u32 t261) ∧ w'.cell? ⟨gb268, 2, none⟩ = some (.int .u32 t262) ∧ w'.cell? ⟨gb268, 3, none⟩ = some (.int .u32 t263) ∧ w'.cell? ⟨gb268, 4, none⟩ = some (.int .u32 t264) ∧ w'.cell? ⟨gb268, 5, none⟩ = some (.int .u32 t265) ∧ w'.cell? ⟨gb268, 6, none⟩ = some (.int .u32 t266) ∧ w'.cell? ⟨gb268, 7, none⟩ = some (.int .u32 t267) ∧ w'.cell? ⟨gb240, 0, none⟩ = some (.int .u32 x241000_1) ∧ w'.cell? ⟨gb240, 1, none⟩ = some (.int .u32 x241001_1) ∧ w'.cell? ⟨gb240, 2, none⟩ = some (.int .u32 x241002_1) ∧ w'.cell? ⟨gb240, 3, none⟩ = some (.int .u32 x241003_1) ∧ w'.cell? ⟨gb240, 4, none⟩ = some (.int .u32 x241004_1) ∧ w'.cell? ⟨gb240, 5, none⟩ = some (.int .u32 x241005_1) ∧ w'.cell? ⟨gb240, 6, none⟩ = some (.int .u32 x241006_1) ∧ w'.cell? ⟨gb240, 7, none⟩ = some (.int .u32 x241007_1)) (ds := [8, 9]) #[F, F, F, F, F, F, F, F, F, F] (by kernel_rfl) rfl rfl ⟨(blk_cell BK239.out 0).trans rfl, (blk_cell BK239.out 1).trans rfl, (blk_cell BK239.out 2).trans rfl, (blk_cell BK239.out 3).trans rfl, (blk_cell BK239.out 4).trans rfl, (blk_cell BK239.out 5).trans rfl, (blk_cell BK239.out 6).trans rfl, (blk_cell BK239.out 7).trans rfl, (blk_cell BK268.out 0).trans rfl, (blk_cell BK268.out 1).trans rfl, (blk_cell BK268.out 2).trans rfl, (blk_cell BK268.out 3).trans rfl, (blk_cell BK268.out 4).trans rfl, (blk_cell BK268.out 5).trans rfl, (blk_cell BK268.out 6).trans rfl, (blk_cell BK268.out 7).trans rfl, (blk_cell BK240.out 0).trans rfl, (blk_cell BK240.out 1).trans rfl, (blk_cell BK240.out 2).trans rfl, (blk_cell BK240.out 3).trans rfl, (blk_cell BK240.out 4).trans rfl, (blk_cell BK240.out 5).trans rfl, (blk_cell BK240.out 6).trans rfl, (blk_cell BK240.out 7).trans rfl⟩ (fun hHeld => ?_); refine with_tabW offertoryref09_Stats.tab8 offertoryref09_Stats.bits8 (fun HT_ HW_ => ?_)
         generalize w56.drew = w57 at HO_239000 BK233 BK234 BK238 BK239 BK240 BK268 HB hHeld ⊢
         refine take_ (i := 0) (N := some 45) (v := ?_) (a' := ?_) #[T, F, F, F, F, F, F, F, F, F] rfl rfl (take_ofW HT_.out HW_.out (by kernel_rfl)) (fun _ _ _ h => h) (Or.inl ⟨by rfl, ?_⟩) hHeld ?_ ?_
         rotate_left
         ·
          rintro w' ⟨s0, s1, s2, s3, s4, s5, s6, s7, s8, s9, s10, s11, s12, s13, s14, s15, s16, s17, s18, s19, s20, s21, s22, s23⟩
          (try simp only [add_plain] at s0 s1 s2 s3 s4 s5 s6 s7 s8 s9 s10 s11 s12 s13 s14 s15 s16 s17 s18 s19 s20 s21 s22 s23)
          go_simp
          with_reducible rfl
         rotate_left
         ·
          simp only [Act.put, List.setIfInBounds_toArray, List.set_cons_zero, List.set_cons_succ, i64_w, i32_w]
          rfl
         refine take_ (i := 1) (N := some 46) (v := ?_) (a' := ?_) #[T, T, F, F, F, F, F, F, F, F] rfl rfl (take_ofW HT_.out HW_.out (by kernel_rfl)) (fun _ _ _ h => h) (Or.inl ⟨by rfl, ?_⟩) hHeld ?_ ?_
         rotate_left
         ·
          rintro w' ⟨s0, s1, s2, s3, s4, s5, s6, s7, s8, s9, s10, s11, s12, s13, s14, s15, s16, s17, s18, s19, s20, s21, s22, s23⟩
          (try simp only [add_plain] at s0 s1 s2 s3 s4 s5 s6 s7 s8 s9 s10 s11 s12 s13 s14 s15 s16 s17 s18 s19 s20 s21 s22 s23)
          go_simp
          with_reducible rfl
         rotate_left
         ·
          simp only [Act.put, List.setIfInBounds_toArray, List.set_cons_zero, List.set_cons_succ, i64_w, i32_w]
          rfl
         refine take_ (i := 3) (N := some 48) (v := ?_) (a' := ?_) #[T, T, F, T, F, F, F, F, F, F] rfl rfl (take_ofW HT_.out HW_.out (by kernel_rfl)) (fun _ _ _ h => h) (Or.inl ⟨by rfl, ?_⟩) hHeld ?_ ?_
         rotate_left
         ·
          rintro w' ⟨s0, s1, s2, s3, s4, s5, s6, s7, s8, s9, s10, s11, s12, s13, s14, s15, s16, s17, s18, s19, s20, s21, s22, s23⟩
          (try simp only [add_plain] at s0 s1 s2 s3 s4 s5 s6 s7 s8 s9 s10 s11 s12 s13 s14 s15 s16 s17 s18 s19 s20 s21 s22 s23)
          go_simp
          with_reducible rfl
         rotate_left
         ·
          simp only [Act.put, List.setIfInBounds_toArray, List.set_cons_zero, List.set_cons_succ, i64_w, i32_w]
          rfl
         refine take_ (i := 4) (N := some 49) (v := ?_) (a' := ?_) #[T, T, F, T, T, F, F, F, F, F] rfl rfl (take_ofW HT_.out HW_.out (by kernel_rfl)) (fun _ _ _ h => h) (Or.inl ⟨by rfl, ?_⟩) hHeld ?_ ?_
         rotate_left
         ·
          rintro w' ⟨s0, s1, s2, s3, s4, s5, s6, s7, s8, s9, s10, s11, s12, s13, s14, s15, s16, s17, s18, s19, s20, s21, s22, s23⟩
          (try simp only [add_plain] at s0 s1 s2 s3 s4 s5 s6 s7 s8 s9 s10 s11 s12 s13 s14 s15 s16 s17 s18 s19 s20 s21 s22 s23)
          go_simp
          with_reducible rfl
         rotate_left
         ·
          simp only [Act.put, List.setIfInBounds_toArray, List.set_cons_zero, List.set_cons_succ, i64_w, i32_w]
          rfl
         refine take_ (i := 5) (N := some 50) (v := ?_) (a' := ?_) #[T, T, F, T, T, T, F, F, F, F] rfl rfl (take_ofW HT_.out HW_.out (by kernel_rfl)) (fun _ _ _ h => h) (Or.inl ⟨by rfl, ?_⟩) hHeld ?_ ?_
         rotate_left
         ·
          rintro w' ⟨s0, s1, s2, s3, s4, s5, s6, s7, s8, s9, s10, s11, s12, s13, s14, s15, s16, s17, s18, s19, s20, s21, s22, s23⟩
          (try simp only [add_plain] at s0 s1 s2 s3 s4 s5 s6 s7 s8 s9 s10 s11 s12 s13 s14 s15 s16 s17 s18 s19 s20 s21 s22 s23)
          go_simp
          with_reducible rfl
         rotate_left
         ·
          simp only [Act.put, List.setIfInBounds_toArray, List.set_cons_zero, List.set_cons_succ, i64_w, i32_w]
          rfl
         refine one_ (i := 2) (N := some 47) #[T, T, T, T, T, T, F, F, F, F] rfl rfl (one_of HT_.out (by kernel_rfl)) (by decide) (fun K hK => ?_)
         refine goes_ Try.func22 (by kernel_rfl) rfl #[.agg #[.int .u32 x240000_1, .int .u32 x240001_1, .int .u32 x240002_1, .int .u32 x240003_1, .int .u32 x240004_1, .int .u32 x240005_1, .int .u32 x240006_1, .int .u32 x240007_1], .agg #[.int .u32 t260, .int .u32 t261, .int .u32 t262, .int .u32 t263, .int .u32 t264, .int .u32 t265, .int .u32 t266, .int .u32 t267]] (by rfl) rfl rfl (by (try simp only [List.map_toArray, List.map_cons, List.map_nil]); first | done | rfl | (simp only [List.length_drop, List.length_take]; rfl)) ?_
         with_reducible refine (offertoryref09_Add.calls x240000_1 x240001_1 x240002_1 x240003_1 x240004_1 x240005_1 x240006_1 x240007_1 t260 t261 t262 t263 t264 t265 t266 t267 t269 t270 t271 t272 t273 t274 t275 t276 _ A36.out).mono ?_
         rintro e w58 ⟨rfl, hb⟩
         refine ⟨_, rfl, ?_⟩
         have n0_ := Aside0.mk (Kd.R_below (by (with_reducible repeat (first | apply Kd.R_alloc | apply Kd.R_drewN | apply Kd.R_drew)); exact HO_239000.out) hb)
         have n1_ := offertoryref09_Stats.keepB BK233 hb
         have n2_ := offertoryref09_Stats.keepB BK234 hb
         have n3_ := offertoryref09_Stats.keepB BK238 hb
         have n4_ := offertoryref09_Stats.keepB BK239 hb
         have n5_ := offertoryref09_Stats.keepB BK240 hb
         have n6_ := offertoryref09_Stats.keepB BK268 hb
         have n7_ := Aside0.mk (below_step (by repeat (first | (with_reducible first | exact HB.out | apply below_alloc | apply pw_below_drewN | apply below_drew1 | refine below_set ?_ GE233.out | refine below_set ?_ GE234.out | refine below_set ?_ GE238.out | refine below_set ?_ GE239.out | refine below_set ?_ GE240.out | refine below_set ?_ GE268.out) | exact HB.out)) hb)
         clear HO_239000
         clear BK233
         clear BK234
         clear BK238
         clear BK239
         clear BK240
         clear BK268
         clear HB
         have HO_239000 := n0_
         have BK233 := n1_
         have BK234 := n2_
         have BK238 := n3_
         have BK239 := n4_
         have BK240 := n5_
         have BK268 := n6_
         have HB := n7_
         clear n0_ n1_ n2_ n3_ n4_ n5_ n6_ n7_
         (try clear hb)
         (try clear hb2)
         (try clear hk)
         (try clear hi)
         refine hK.out _ _ ⟨(blk_cell BK239.out 0).trans rfl, (blk_cell BK239.out 1).trans rfl, (blk_cell BK239.out 2).trans rfl, (blk_cell BK239.out 3).trans rfl, (blk_cell BK239.out 4).trans rfl, (blk_cell BK239.out 5).trans rfl, (blk_cell BK239.out 6).trans rfl, (blk_cell BK239.out 7).trans rfl, (blk_cell BK268.out 0).trans rfl, (blk_cell BK268.out 1).trans rfl, (blk_cell BK268.out 2).trans rfl, (blk_cell BK268.out 3).trans rfl, (blk_cell BK268.out 4).trans rfl, (blk_cell BK268.out 5).trans rfl, (blk_cell BK268.out 6).trans rfl, (blk_cell BK268.out 7).trans rfl, (blk_cell BK240.out 0).trans rfl, (blk_cell BK240.out 1).trans rfl, (blk_cell BK240.out 2).trans rfl, (blk_cell BK240.out 3).trans rfl, (blk_cell BK240.out 4).trans rfl, (blk_cell BK240.out 5).trans rfl, (blk_cell BK240.out 6).trans rfl, (blk_cell BK240.out 7).trans rfl⟩ (fun hHeld => ?_)
         clear hK K
         refine norm_ (a' := ?_) ?_ ?_
         rotate_left
         ·
          show Act.put _ (some 47) _ = _
          simp only [Act.put, List.setIfInBounds_toArray, List.set_cons_zero, List.set_cons_succ, i64_w, i32_w]
          rfl
         refine one_ (i := 6) (N := some 51) #[T, T, T, T, T, T, T, F, F, F] rfl rfl (one_of HT_.out (by kernel_rfl)) (by decide) (fun K hK => ?_)
         refine goes_ Try.func29 (by kernel_rfl) rfl #[.agg #[.int .u32 t260, .int .u32 t261, .int .u32 t262, .int .u32 t263, .int .u32 t264, .int .u32 t265, .int .u32 t266, .int .u32 t267], .agg #[.int .u32 t260, .int .u32 t261, .int .u32 t262, .int .u32 t263, .int .u32 t264, .int .u32 t265, .int .u32 t266, .int .u32 t267]] (by rfl) rfl rfl (by (try simp only [List.map_toArray, List.map_cons, List.map_nil]); first | done | rfl | (simp only [List.length_drop, List.length_take]; rfl)) ?_
         with_reducible refine (offertoryref09_Mul.calls t260 t261 t262 t263 t264 t265 t266 t267 t260 t261 t262 t263 t264 t265 t266 t267 t277 t278 t279 t280 t281 t282 t283 t284 _ A37.out).mono ?_
         rintro e w59 ⟨rfl, hb⟩
         refine ⟨_, rfl, ?_⟩
         have n0_ := Aside0.mk (Kd.R_below (by (with_reducible repeat (first | apply Kd.R_alloc | apply Kd.R_drewN | apply Kd.R_drew)); exact HO_239000.out) hb)
         have n1_ := offertoryref09_Stats.keepB BK233 hb
         have n2_ := offertoryref09_Stats.keepB BK234 hb
         have n3_ := offertoryref09_Stats.keepB BK238 hb
         have n4_ := offertoryref09_Stats.keepB BK239 hb
         have n5_ := offertoryref09_Stats.keepB BK240 hb
         have n6_ := offertoryref09_Stats.keepB BK268 hb
         have n7_ := Aside0.mk (below_step (by repeat (first | (with_reducible first | exact HB.out | apply below_alloc | apply pw_below_drewN | apply below_drew1 | refine below_set ?_ GE233.out | refine below_set ?_ GE234.out | refine below_set ?_ GE238.out | refine below_set ?_ GE239.out | refine below_set ?_ GE240.out | refine below_set ?_ GE268.out) | exact HB.out)) hb)
         clear HO_239000
         clear BK233
         clear BK234
         clear BK238
         clear BK239
         clear BK240
         clear BK268
         clear HB
         have HO_239000 := n0_
         have BK233 := n1_
         have BK234 := n2_
         have BK238 := n3_
         have BK239 := n4_
         have BK240 := n5_
         have BK268 := n6_
         have HB := n7_
         clear n0_ n1_ n2_ n3_ n4_ n5_ n6_ n7_
         (try clear hb)
         (try clear hb2)
         (try clear hk)
         (try clear hi)
         refine hK.out _ _ ⟨(blk_cell BK239.out 0).trans rfl, (blk_cell BK239.out 1).trans rfl, (blk_cell BK239.out 2).trans rfl, (blk_cell BK239.out 3).trans rfl, (blk_cell BK239.out 4).trans rfl, (blk_cell BK239.out 5).trans rfl, (blk_cell BK239.out 6).trans rfl, (blk_cell BK239.out 7).trans rfl, (blk_cell BK268.out 0).trans rfl, (blk_cell BK268.out 1).trans rfl, (blk_cell BK268.out 2).trans rfl, (blk_cell BK268.out 3).trans rfl, (blk_cell BK268.out 4).trans rfl, (blk_cell BK268.out 5).trans rfl, (blk_cell BK268.out 6).trans rfl, (blk_cell BK268.out 7).trans rfl, (blk_cell BK240.out 0).trans rfl, (blk_cell BK240.out 1).trans rfl, (blk_cell BK240.out 2).trans rfl, (blk_cell BK240.out 3).trans rfl, (blk_cell BK240.out 4).trans rfl, (blk_cell BK240.out 5).trans rfl, (blk_cell BK240.out 6).trans rfl, (blk_cell BK240.out 7).trans rfl⟩ (fun hHeld => ?_)
         clear hK K
         refine norm_ (a' := ?_) ?_ ?_
         rotate_left
         ·
          show Act.put _ (some 51) _ = _
          simp only [Act.put, List.setIfInBounds_toArray, List.set_cons_zero, List.set_cons_succ, i64_w, i32_w]
          rfl
         refine one_ (i := 7) (N := some 52) #[T, T, T, T, T, T, T, T, F, F] rfl rfl (one_of HT_.out (by kernel_rfl)) (by decide) (fun K hK => ?_)
         refine goes_ Try.func22 (by kernel_rfl) rfl #[.agg #[.int .u32 x241000_1, .int .u32 x241001_1, .int .u32 x241002_1, .int .u32 x241003_1, .int .u32 x241004_1, .int .u32 x241005_1, .int .u32 x241006_1, .int .u32 x241007_1], .agg #[.int .u32 t277, .int .u32 t278, .int .u32 t279, .int .u32 t280, .int .u32 t281, .int .u32 t282, .int .u32 t283, .int .u32 t284]] (by rfl) rfl rfl (by (try simp only [List.map_toArray, List.map_cons, List.map_nil]); first | done | rfl | (simp only [List.length_drop, List.length_take]; rfl)) ?_
         with_reducible refine (offertoryref09_Add.calls x241000_1 x241001_1 x241002_1 x241003_1 x241004_1 x241005_1 x241006_1 x241007_1 t277 t278 t279 t280 t281 t282 t283 t284 t285 t286 t287 t288 t289 t290 t291 t292 _ A38.out).mono ?_
         rintro e w60 ⟨rfl, hb⟩
         refine ⟨_, rfl, ?_⟩
         have n0_ := Aside0.mk (Kd.R_below (by (with_reducible repeat (first | apply Kd.R_alloc | apply Kd.R_drewN | apply Kd.R_drew)); exact HO_239000.out) hb)
         have n1_ := offertoryref09_Stats.keepB BK233 hb
         have n2_ := offertoryref09_Stats.keepB BK234 hb
         have n3_ := offertoryref09_Stats.keepB BK238 hb
         have n4_ := offertoryref09_Stats.keepB BK239 hb
         have n5_ := offertoryref09_Stats.keepB BK240 hb
         have n6_ := offertoryref09_Stats.keepB BK268 hb
         have n7_ := Aside0.mk (below_step (by repeat (first | (with_reducible first | exact HB.out | apply below_alloc | apply pw_below_drewN | apply below_drew1 | refine below_set ?_ GE233.out | refine below_set ?_ GE234.out | refine below_set ?_ GE238.out | refine below_set ?_ GE239.out | refine below_set ?_ GE240.out | refine below_set ?_ GE268.out) | exact HB.out)) hb)
         clear HO_239000
         clear BK233
         clear BK234
         clear BK238
         clear BK239
         clear BK240
         clear BK268
         clear HB
         have HO_239000 := n0_
         have BK233 := n1_
         have BK234 := n2_
         have BK238 := n3_
         have BK239 := n4_
         have BK240 := n5_
         have BK268 := n6_
         have HB := n7_
         clear n0_ n1_ n2_ n3_ n4_ n5_ n6_ n7_
         (try clear hb)
         (try clear hb2)
         (try clear hk)
         (try clear hi)
         refine hK.out _ _ ⟨(blk_cell BK239.out 0).trans rfl, (blk_cell BK239.out 1).trans rfl, (blk_cell BK239.out 2).trans rfl, (blk_cell BK239.out 3).trans rfl, (blk_cell BK239.out 4).trans rfl, (blk_cell BK239.out 5).trans rfl, (blk_cell BK239.out 6).trans rfl, (blk_cell BK239.out 7).trans rfl, (blk_cell BK268.out 0).trans rfl, (blk_cell BK268.out 1).trans rfl, (blk_cell BK268.out 2).trans rfl, (blk_cell BK268.out 3).trans rfl, (blk_cell BK268.out 4).trans rfl, (blk_cell BK268.out 5).trans rfl, (blk_cell BK268.out 6).trans rfl, (blk_cell BK268.out 7).trans rfl, (blk_cell BK240.out 0).trans rfl, (blk_cell BK240.out 1).trans rfl, (blk_cell BK240.out 2).trans rfl, (blk_cell BK240.out 3).trans rfl, (blk_cell BK240.out 4).trans rfl, (blk_cell BK240.out 5).trans rfl, (blk_cell BK240.out 6).trans rfl, (blk_cell BK240.out 7).trans rfl⟩ (fun hHeld => ?_)
         clear hK K
         refine norm_ (a' := ?_) ?_ ?_
         rotate_left
         ·
          show Act.put _ (some 52) _ = _
          simp only [Act.put, List.setIfInBounds_toArray, List.set_cons_zero, List.set_cons_succ, i64_w, i32_w]
          rfl
         refine last_ (i := 8) (N := none) #[T, T, T, T, T, T, T, T, T, F] rfl rfl (one_of HT_.out (by kernel_rfl)) (by decide) (fun K hK => ?_)
         have hs61 : w60.cell? ⟨gb239, 0, none⟩ = some (.int .u32 x240000_1) := (blk_cell BK239.out 0).trans rfl
         have hfs61 := blk_frozen BK239.out 0
         have hns61_0 := NB233_239.out
         have hns61_1 := NB234_239.out
         have hns61_2 := NB238_239.out
         have hns61_4 := NB240_239.out
         have hns61_5 := NB268_239.out
         have hms61_0 := NB239_233.out
         have hms61_1 := NB239_234.out
         have hms61_2 := NB239_238.out
         have hms61_4 := NB239_240.out
         have hms61_5 := NB239_268.out
         have hs62 : w60.cell? ⟨gb239, 1, none⟩ = some (.int .u32 x240001_1) := (blk_cell BK239.out 1).trans rfl
         have hfs62 := blk_frozen BK239.out 1
         have hns62_0 := NB233_239.out
         have hns62_1 := NB234_239.out
         have hns62_2 := NB238_239.out
         have hns62_4 := NB240_239.out
         have hns62_5 := NB268_239.out
         have hms62_0 := NB239_233.out
         have hms62_1 := NB239_234.out
         have hms62_2 := NB239_238.out
         have hms62_4 := NB239_240.out
         have hms62_5 := NB239_268.out
         have hs63 : w60.cell? ⟨gb239, 2, none⟩ = some (.int .u32 x240002_1) := (blk_cell BK239.out 2).trans rfl
         have hfs63 := blk_frozen BK239.out 2
         have hns63_0 := NB233_239.out
         have hns63_1 := NB234_239.out
         have hns63_2 := NB238_239.out
         have hns63_4 := NB240_239.out
         have hns63_5 := NB268_239.out
         have hms63_0 := NB239_233.out
         have hms63_1 := NB239_234.out
         have hms63_2 := NB239_238.out
         have hms63_4 := NB239_240.out
         have hms63_5 := NB239_268.out
         have hs64 : w60.cell? ⟨gb239, 3, none⟩ = some (.int .u32 x240003_1) := (blk_cell BK239.out 3).trans rfl
         have hfs64 := blk_frozen BK239.out 3
         have hns64_0 := NB233_239.out
         have hns64_1 := NB234_239.out
         have hns64_2 := NB238_239.out
         have hns64_4 := NB240_239.out
         have hns64_5 := NB268_239.out
         have hms64_0 := NB239_233.out
         have hms64_1 := NB239_234.out
         have hms64_2 := NB239_238.out
         have hms64_4 := NB239_240.out
         have hms64_5 := NB239_268.out
         have hs65 : w60.cell? ⟨gb239, 4, none⟩ = some (.int .u32 x240004_1) := (blk_cell BK239.out 4).trans rfl
         have hfs65 := blk_frozen BK239.out 4
         have hns65_0 := NB233_239.out
         have hns65_1 := NB234_239.out
         have hns65_2 := NB238_239.out
         have hns65_4 := NB240_239.out
         have hns65_5 := NB268_239.out
         have hms65_0 := NB239_233.out
         have hms65_1 := NB239_234.out
         have hms65_2 := NB239_238.out
         have hms65_4 := NB239_240.out
         have hms65_5 := NB239_268.out
         have hs66 : w60.cell? ⟨gb239, 5, none⟩ = some (.int .u32 x240005_1) := (blk_cell BK239.out 5).trans rfl
         have hfs66 := blk_frozen BK239.out 5
         have hns66_0 := NB233_239.out
         have hns66_1 := NB234_239.out
         have hns66_2 := NB238_239.out
         have hns66_4 := NB240_239.out
         have hns66_5 := NB268_239.out
         have hms66_0 := NB239_233.out
         have hms66_1 := NB239_234.out
         have hms66_2 := NB239_238.out
         have hms66_4 := NB239_240.out
         have hms66_5 := NB239_268.out
         have hs67 : w60.cell? ⟨gb239, 6, none⟩ = some (.int .u32 x240006_1) := (blk_cell BK239.out 6).trans rfl
         have hfs67 := blk_frozen BK239.out 6
         have hns67_0 := NB233_239.out
         have hns67_1 := NB234_239.out
         have hns67_2 := NB238_239.out
         have hns67_4 := NB240_239.out
         have hns67_5 := NB268_239.out
         have hms67_0 := NB239_233.out
         have hms67_1 := NB239_234.out
         have hms67_2 := NB239_238.out
         have hms67_4 := NB239_240.out
         have hms67_5 := NB239_268.out
         have hs68 : w60.cell? ⟨gb239, 7, none⟩ = some (.int .u32 x240007_1) := (blk_cell BK239.out 7).trans rfl
         have hfs68 := blk_frozen BK239.out 7
         have hns68_0 := NB233_239.out
         have hns68_1 := NB234_239.out
         have hns68_2 := NB238_239.out
         have hns68_4 := NB240_239.out
         have hns68_5 := NB268_239.out
         have hms68_0 := NB239_233.out
         have hms68_1 := NB239_234.out
         have hms68_2 := NB239_238.out
         have hms68_4 := NB239_240.out
         have hms68_5 := NB239_268.out
         refine skip_ (w1 := ?_) ?_ ?_ ?_ ?_
         rotate_left
         · rfl
         · rfl
         ·
           go_simp
           rfl
         refine hK.out _ _ ?_
         clear hK K
         refine last_ (i := 9) (N := none) #[T, T, T, T, T, T, T, T, T, T] rfl rfl (one_of HT_.out (by kernel_rfl)) (by decide) (fun K hK => ?_)
         have hs69 : w60.cell? ⟨gb240, 0, none⟩ = some (.int .u32 x241000_1) := (blk_cell BK240.out 0).trans rfl
         have hfs69 := blk_frozen BK240.out 0
         have hns69_0 := NB233_240.out
         have hns69_1 := NB234_240.out
         have hns69_2 := NB238_240.out
         have hns69_3 := NB239_240.out
         have hns69_5 := NB268_240.out
         have hms69_0 := NB240_233.out
         have hms69_1 := NB240_234.out
         have hms69_2 := NB240_238.out
         have hms69_3 := NB240_239.out
         have hms69_5 := NB240_268.out
         have hs70 : w60.cell? ⟨gb240, 1, none⟩ = some (.int .u32 x241001_1) := (blk_cell BK240.out 1).trans rfl
         have hfs70 := blk_frozen BK240.out 1
         have hns70_0 := NB233_240.out
         have hns70_1 := NB234_240.out
         have hns70_2 := NB238_240.out
         have hns70_3 := NB239_240.out
         have hns70_5 := NB268_240.out
         have hms70_0 := NB240_233.out
         have hms70_1 := NB240_234.out
         have hms70_2 := NB240_238.out
         have hms70_3 := NB240_239.out
         have hms70_5 := NB240_268.out
         have hs71 : w60.cell? ⟨gb240, 2, none⟩ = some (.int .u32 x241002_1) := (blk_cell BK240.out 2).trans rfl
         have hfs71 := blk_frozen BK240.out 2
         have hns71_0 := NB233_240.out
         have hns71_1 := NB234_240.out
         have hns71_2 := NB238_240.out
         have hns71_3 := NB239_240.out
         have hns71_5 := NB268_240.out
         have hms71_0 := NB240_233.out
         have hms71_1 := NB240_234.out
         have hms71_2 := NB240_238.out
         have hms71_3 := NB240_239.out
         have hms71_5 := NB240_268.out
         have hs72 : w60.cell? ⟨gb240, 3, none⟩ = some (.int .u32 x241003_1) := (blk_cell BK240.out 3).trans rfl
         have hfs72 := blk_frozen BK240.out 3
         have hns72_0 := NB233_240.out
         have hns72_1 := NB234_240.out
         have hns72_2 := NB238_240.out
         have hns72_3 := NB239_240.out
         have hns72_5 := NB268_240.out
         have hms72_0 := NB240_233.out
         have hms72_1 := NB240_234.out
         have hms72_2 := NB240_238.out
         have hms72_3 := NB240_239.out
         have hms72_5 := NB240_268.out
         have hs73 : w60.cell? ⟨gb240, 4, none⟩ = some (.int .u32 x241004_1) := (blk_cell BK240.out 4).trans rfl
         have hfs73 := blk_frozen BK240.out 4
         have hns73_0 := NB233_240.out
         have hns73_1 := NB234_240.out
         have hns73_2 := NB238_240.out
         have hns73_3 := NB239_240.out
         have hns73_5 := NB268_240.out
         have hms73_0 := NB240_233.out
         have hms73_1 := NB240_234.out
         have hms73_2 := NB240_238.out
         have hms73_3 := NB240_239.out
         have hms73_5 := NB240_268.out
         have hs74 : w60.cell? ⟨gb240, 5, none⟩ = some (.int .u32 x241005_1) := (blk_cell BK240.out 5).trans rfl
         have hfs74 := blk_frozen BK240.out 5
         have hns74_0 := NB233_240.out
         have hns74_1 := NB234_240.out
         have hns74_2 := NB238_240.out
         have hns74_3 := NB239_240.out
         have hns74_5 := NB268_240.out
         have hms74_0 := NB240_233.out
         have hms74_1 := NB240_234.out
         have hms74_2 := NB240_238.out
         have hms74_3 := NB240_239.out
         have hms74_5 := NB240_268.out
         have hs75 : w60.cell? ⟨gb240, 6, none⟩ = some (.int .u32 x241006_1) := (blk_cell BK240.out 6).trans rfl
         have hfs75 := blk_frozen BK240.out 6
         have hns75_0 := NB233_240.out
         have hns75_1 := NB234_240.out
         have hns75_2 := NB238_240.out
         have hns75_3 := NB239_240.out
         have hns75_5 := NB268_240.out
         have hms75_0 := NB240_233.out
         have hms75_1 := NB240_234.out
         have hms75_2 := NB240_238.out
         have hms75_3 := NB240_239.out
         have hms75_5 := NB240_268.out
         have hs76 : w60.cell? ⟨gb240, 7, none⟩ = some (.int .u32 x241007_1) := (blk_cell BK240.out 7).trans rfl
         have hfs76 := blk_frozen BK240.out 7
         have hns76_0 := NB233_240.out
         have hns76_1 := NB234_240.out
         have hns76_2 := NB238_240.out
         have hns76_3 := NB239_240.out
         have hns76_5 := NB268_240.out
         have hms76_0 := NB240_233.out
         have hms76_1 := NB240_234.out
         have hms76_2 := NB240_238.out
         have hms76_3 := NB240_239.out
         have hms76_5 := NB240_268.out
         refine skip_ (w1 := ?_) ?_ ?_ ?_ ?_
         rotate_left
         · rfl
         · rfl
         ·
           go_simp
           rfl
         refine hK.out _ _ ?_
         clear hK K
         refine done_ (done_of HT_.out (by kernel_rfl)) ?_
         try go_wp2
         go_roundg k1
         case measure => have := HK1.out; omega
         case rel => exact ⟨(wrap64 (x8_1 + 1)), (y257), (t269), (t270), (t271), (t272), (t273), (t274), (t275), (t276), (t285), (t286), (t287), (t288), (t289), (t290), (t291), (t292), (.slice (some ⟨go33, 0, none⟩) x239000_1.length co41), (by first | rfl | (simp; done) | (simp [*]; done)), H', ⟨by have := HK1.out; omega⟩, ⟨by (with_reducible repeat (first | apply Kd.R_alloc | apply Kd.R_drewN | apply Kd.R_drew)); exact Kd.R_mono (Kd.R_far (p := ⟨gb240, 7, none⟩) (Kd.R_far (p := ⟨gb240, 6, none⟩) (Kd.R_far (p := ⟨gb240, 5, none⟩) (Kd.R_far (p := ⟨gb240, 4, none⟩) (Kd.R_far (p := ⟨gb240, 3, none⟩) (Kd.R_far (p := ⟨gb240, 2, none⟩) (Kd.R_far (p := ⟨gb240, 1, none⟩) (Kd.R_far (p := ⟨gb240, 0, none⟩) (Kd.R_far (p := ⟨gb239, 7, none⟩) (Kd.R_far (p := ⟨gb239, 6, none⟩) (Kd.R_far (p := ⟨gb239, 5, none⟩) (Kd.R_far (p := ⟨gb239, 4, none⟩) (Kd.R_far (p := ⟨gb239, 3, none⟩) (Kd.R_far (p := ⟨gb239, 2, none⟩) (Kd.R_far (p := ⟨gb239, 1, none⟩) (Kd.R_far (p := ⟨gb239, 0, none⟩) (Kd.R_types (Kd.R_types HO_239000.out BK239.out (by decide)) BK240.out (by decide)) (fun _ hk => hk.1.2) (.int .u32 t269)) (fun _ hk => hk.1.2) (.int .u32 t270)) (fun _ hk => hk.1.2) (.int .u32 t271)) (fun _ hk => hk.1.2) (.int .u32 t272)) (fun _ hk => hk.1.2) (.int .u32 t273)) (fun _ hk => hk.1.2) (.int .u32 t274)) (fun _ hk => hk.1.2) (.int .u32 t275)) (fun _ hk => hk.1.2) (.int .u32 t276)) (fun _ hk => hk.2) (.int .u32 t285)) (fun _ hk => hk.2) (.int .u32 t286)) (fun _ hk => hk.2) (.int .u32 t287)) (fun _ hk => hk.2) (.int .u32 t288)) (fun _ hk => hk.2) (.int .u32 t289)) (fun _ hk => hk.2) (.int .u32 t290)) (fun _ hk => hk.2) (.int .u32 t291)) (fun _ hk => hk.2) (.int .u32 t292)) (fun _ hk => trivial)⟩, ⟨by (repeat (first | (with_reducible first | refine blk_drewN ?_ _ | refine blk_drew ?_ | refine blk_alloc ?_ _) | refine blk_far ?_ NB233_240.out _)); (repeat (first | (with_reducible first | refine blk_drewN ?_ _ | refine blk_drew ?_ | refine blk_alloc ?_ _) | refine blk_far ?_ NB233_239.out _)); (with_reducible repeat (first | refine blk_drewN ?_ _ | refine blk_drew ?_ | refine blk_alloc ?_ _)); exact BK233.out⟩, ⟨by (repeat (first | (with_reducible first | refine blk_drewN ?_ _ | refine blk_drew ?_ | refine blk_alloc ?_ _) | refine blk_far ?_ NB234_240.out _)); (repeat (first | (with_reducible first | refine blk_drewN ?_ _ | refine blk_drew ?_ | refine blk_alloc ?_ _) | refine blk_far ?_ NB234_239.out _)); (with_reducible repeat (first | refine blk_drewN ?_ _ | refine blk_drew ?_ | refine blk_alloc ?_ _)); exact BK234.out⟩, ⟨by (repeat (first | (with_reducible first | refine blk_drewN ?_ _ | refine blk_drew ?_ | refine blk_alloc ?_ _) | refine blk_far ?_ NB238_240.out _)); (repeat (first | (with_reducible first | refine blk_drewN ?_ _ | refine blk_drew ?_ | refine blk_alloc ?_ _) | refine blk_far ?_ NB238_239.out _)); (with_reducible repeat (first | refine blk_drewN ?_ _ | refine blk_drew ?_ | refine blk_alloc ?_ _)); exact BK238.out⟩, ⟨by (repeat (first | (with_reducible first | refine blk_drewN ?_ _ | refine blk_drew ?_ | refine blk_alloc ?_ _) | refine blk_far ?_ NB239_240.out _)); (with_reducible repeat (first | refine blk_drewN ?_ _ | refine blk_drew ?_ | refine blk_alloc ?_ _)); refine blk_put (cs := #[.int .u32 t269, .int .u32 t270, .int .u32 t271, .int .u32 t272, .int .u32 t273, .int .u32 t274, .int .u32 t275, .int .u32 x240007_1]) ?_ 7 _ rfl; (with_reducible repeat (first | refine blk_drewN ?_ _ | refine blk_drew ?_ | refine blk_alloc ?_ _)); refine blk_put (cs := #[.int .u32 t269, .int .u32 t270, .int .u32 t271, .int .u32 t272, .int .u32 t273, .int .u32 t274, .int .u32 x240006_1, .int .u32 x240007_1]) ?_ 6 _ rfl; (with_reducible repeat (first | refine blk_drewN ?_ _ | refine blk_drew ?_ | refine blk_alloc ?_ _)); refine blk_put (cs := #[.int .u32 t269, .int .u32 t270, .int .u32 t271, .int .u32 t272, .int .u32 t273, .int .u32 x240005_1, .int .u32 x240006_1, .int .u32 x240007_1]) ?_ 5 _ rfl; (with_reducible repeat (first | refine blk_drewN ?_ _ | refine blk_drew ?_ | refine blk_alloc ?_ _)); refine blk_put (cs := #[.int .u32 t269, .int .u32 t270, .int .u32 t271, .int .u32 t272, .int .u32 x240004_1, .int .u32 x240005_1, .int .u32 x240006_1, .int .u32 x240007_1]) ?_ 4 _ rfl; (with_reducible repeat (first | refine blk_drewN ?_ _ | refine blk_drew ?_ | refine blk_alloc ?_ _)); refine blk_put (cs := #[.int .u32 t269, .int .u32 t270, .int .u32 t271, .int .u32 x240003_1, .int .u32 x240004_1, .int .u32 x240005_1, .int .u32 x240006_1, .int .u32 x240007_1]) ?_ 3 _ rfl; (with_reducible repeat (first | refine blk_drewN ?_ _ | refine blk_drew ?_ | refine blk_alloc ?_ _)); refine blk_put (cs := #[.int .u32 t269, .int .u32 t270, .int .u32 x240002_1, .int .u32 x240003_1, .int .u32 x240004_1, .int .u32 x240005_1, .int .u32 x240006_1, .int .u32 x240007_1]) ?_ 2 _ rfl; (with_reducible repeat (first | refine blk_drewN ?_ _ | refine blk_drew ?_ | refine blk_alloc ?_ _)); refine blk_put (cs := #[.int .u32 t269, .int .u32 x240001_1, .int .u32 x240002_1, .int .u32 x240003_1, .int .u32 x240004_1, .int .u32 x240005_1, .int .u32 x240006_1, .int .u32 x240007_1]) ?_ 1 _ rfl; (with_reducible repeat (first | refine blk_drewN ?_ _ | refine blk_drew ?_ | refine blk_alloc ?_ _)); refine blk_put (cs := #[.int .u32 x240000_1, .int .u32 x240001_1, .int .u32 x240002_1, .int .u32 x240003_1, .int .u32 x240004_1, .int .u32 x240005_1, .int .u32 x240006_1, .int .u32 x240007_1]) ?_ 0 _ rfl; (with_reducible repeat (first | refine blk_drewN ?_ _ | refine blk_drew ?_ | refine blk_alloc ?_ _)); exact BK239.out⟩, ⟨by (with_reducible repeat (first | refine blk_drewN ?_ _ | refine blk_drew ?_ | refine blk_alloc ?_ _)); refine blk_put (cs := #[.int .u32 t285, .int .u32 t286, .int .u32 t287, .int .u32 t288, .int .u32 t289, .int .u32 t290, .int .u32 t291, .int .u32 x241007_1]) ?_ 7 _ rfl; (with_reducible repeat (first | refine blk_drewN ?_ _ | refine blk_drew ?_ | refine blk_alloc ?_ _)); refine blk_put (cs := #[.int .u32 t285, .int .u32 t286, .int .u32 t287, .int .u32 t288, .int .u32 t289, .int .u32 t290, .int .u32 x241006_1, .int .u32 x241007_1]) ?_ 6 _ rfl; (with_reducible repeat (first | refine blk_drewN ?_ _ | refine blk_drew ?_ | refine blk_alloc ?_ _)); refine blk_put (cs := #[.int .u32 t285, .int .u32 t286, .int .u32 t287, .int .u32 t288, .int .u32 t289, .int .u32 x241005_1, .int .u32 x241006_1, .int .u32 x241007_1]) ?_ 5 _ rfl; (with_reducible repeat (first | refine blk_drewN ?_ _ | refine blk_drew ?_ | refine blk_alloc ?_ _)); refine blk_put (cs := #[.int .u32 t285, .int .u32 t286, .int .u32 t287, .int .u32 t288, .int .u32 x241004_1, .int .u32 x241005_1, .int .u32 x241006_1, .int .u32 x241007_1]) ?_ 4 _ rfl; (with_reducible repeat (first | refine blk_drewN ?_ _ | refine blk_drew ?_ | refine blk_alloc ?_ _)); refine blk_put (cs := #[.int .u32 t285, .int .u32 t286, .int .u32 t287, .int .u32 x241003_1, .int .u32 x241004_1, .int .u32 x241005_1, .int .u32 x241006_1, .int .u32 x241007_1]) ?_ 3 _ rfl; (with_reducible repeat (first | refine blk_drewN ?_ _ | refine blk_drew ?_ | refine blk_alloc ?_ _)); refine blk_put (cs := #[.int .u32 t285, .int .u32 t286, .int .u32 x241002_1, .int .u32 x241003_1, .int .u32 x241004_1, .int .u32 x241005_1, .int .u32 x241006_1, .int .u32 x241007_1]) ?_ 2 _ rfl; (with_reducible repeat (first | refine blk_drewN ?_ _ | refine blk_drew ?_ | refine blk_alloc ?_ _)); refine blk_put (cs := #[.int .u32 t285, .int .u32 x241001_1, .int .u32 x241002_1, .int .u32 x241003_1, .int .u32 x241004_1, .int .u32 x241005_1, .int .u32 x241006_1, .int .u32 x241007_1]) ?_ 1 _ rfl; (with_reducible repeat (first | refine blk_drewN ?_ _ | refine blk_drew ?_ | refine blk_alloc ?_ _)); refine blk_put (cs := #[.int .u32 x241000_1, .int .u32 x241001_1, .int .u32 x241002_1, .int .u32 x241003_1, .int .u32 x241004_1, .int .u32 x241005_1, .int .u32 x241006_1, .int .u32 x241007_1]) ?_ 0 _ rfl; (repeat (first | (with_reducible first | refine blk_drewN ?_ _ | refine blk_drew ?_ | refine blk_alloc ?_ _) | refine blk_far ?_ NB240_239.out _)); (with_reducible repeat (first | refine blk_drewN ?_ _ | refine blk_drew ?_ | refine blk_alloc ?_ _)); exact BK240.out⟩, ⟨by repeat (first | (with_reducible first | exact HB.out | apply below_alloc | apply pw_below_drewN | apply below_drew1 | refine below_set ?_ GE233.out | refine below_set ?_ GE234.out | refine below_set ?_ GE238.out | refine below_set ?_ GE239.out | refine below_set ?_ GE240.out | refine below_set ?_ GE268.out) | exact HB.out)⟩⟩
        ·
         rw [if_neg c32] at H
         exact absurd H (by simp)
       ·
        rw [if_neg c31] at H
        exact absurd H (by simp)
      ·
       rw [if_neg c29] at H
       exact absurd H (by simp)
     ·
      rw [if_neg c28] at H
      have c28b0 : decide (x8_1 < (l1.length : Int)) = false := decide_eq_false c28
      clear c28
      replace H := Option.bind_eq_some_iff.mp H
      obtain ⟨⟨t241, t242⟩, A770, H⟩ := H
      replace H : ((offertoryref09_Signed.f x240000_1 x240001_1 x240002_1 x240003_1 x240004_1 x240005_1 x240006_1 x240007_1).bind fun bt243 => ((offertoryref09_Big_Wide.f bt243.1 bt243.2.1 bt243.2.2.1 bt243.2.2.2.1 bt243.2.2.2.2.1 bt243.2.2.2.2.2.1 bt243.2.2.2.2.2.2.1 bt243.2.2.2.2.2.2.2.1).bind fun bt252 => (some (x239000_1, (l1.length : Int), bt252.1, bt252.2, t241, t242, bt243.2.2.2.2.2.2.2.2)))) = some (r1, r2, r3, r4, r5, r6, r7) := H
      have A77 := Aside0.mk A770
      clear A770
      replace H := Option.bind_eq_some_iff.mp H
      obtain ⟨⟨t243, t244, t245, t246, t247, t248, t249, t250, t251⟩, A780, H⟩ := H
      replace H : ((offertoryref09_Big_Wide.f t243 t244 t245 t246 t247 t248 t249 t250).bind fun bt252 => (some (x239000_1, (l1.length : Int), bt252.1, bt252.2, t241, t242, t251))) = some (r1, r2, r3, r4, r5, r6, r7) := H
      have A78 := Aside0.mk A780
      clear A780
      replace H := Option.bind_eq_some_iff.mp H
      obtain ⟨⟨t252, t253⟩, A790, H⟩ := H
      replace H : (some (x239000_1, (l1.length : Int), t252, t253, t241, t242, t251)) = some (r1, r2, r3, r4, r5, r6, r7) := H
      have A79 := Aside0.mk A790
      clear A790
      simp only [Option.some.injEq, Prod.mk.injEq] at H
      obtain ⟨rfl, rfl, rfl, rfl, rfl, rfl, rfl⟩ := H
      have hnb80 := NB240_233.out
      have hnc80 := NB233_240.out
      have hnb81 := NB240_234.out
      have hnc81 := NB234_240.out
      have hnb82 := NB240_238.out
      have hnc82 := NB238_240.out
      have hnb83 := NB240_239.out
      have hnc83 := NB239_240.out
      have hcz84_0 : wr.cell? ⟨gb240, 0, none⟩ = some (.int .u32 x241000_1) := (blk_cell BK240.out 0).trans rfl
      have hcz84_1 : wr.cell? ⟨gb240, 1, none⟩ = some (.int .u32 x241001_1) := (blk_cell BK240.out 1).trans rfl
      have hcz84_2 : wr.cell? ⟨gb240, 2, none⟩ = some (.int .u32 x241002_1) := (blk_cell BK240.out 2).trans rfl
      have hcz84_3 : wr.cell? ⟨gb240, 3, none⟩ = some (.int .u32 x241003_1) := (blk_cell BK240.out 3).trans rfl
      have hcz84_4 : wr.cell? ⟨gb240, 4, none⟩ = some (.int .u32 x241004_1) := (blk_cell BK240.out 4).trans rfl
      have hcz84_5 : wr.cell? ⟨gb240, 5, none⟩ = some (.int .u32 x241005_1) := (blk_cell BK240.out 5).trans rfl
      have hcz84_6 : wr.cell? ⟨gb240, 6, none⟩ = some (.int .u32 x241006_1) := (blk_cell BK240.out 6).trans rfl
      have hcz84_7 : wr.cell? ⟨gb240, 7, none⟩ = some (.int .u32 x241007_1) := (blk_cell BK240.out 7).trans rfl
      have hfz84_0 := blk_frozen BK240.out 0
      have hfz84_1 := blk_frozen BK240.out 1
      have hfz84_2 := blk_frozen BK240.out 2
      have hfz84_3 := blk_frozen BK240.out 3
      have hfz84_4 := blk_frozen BK240.out 4
      have hfz84_5 := blk_frozen BK240.out 5
      have hfz84_6 := blk_frozen BK240.out 6
      have hfz84_7 := blk_frozen BK240.out 7
      go_wp2_with (first | ((with_reducible refine gate_callee (f := 23) rfl ?_); refine goesL_ (some 54) rfl rfl Try.func23 (by kernel_rfl) rfl #[.agg #[.int .u32 x241000_1, .int .u32 x241001_1, .int .u32 x241002_1, .int .u32 x241003_1, .int .u32 x241004_1, .int .u32 x241005_1, .int .u32 x241006_1, .int .u32 x241007_1]] rfl (by (try simp only [List.map_toArray, List.map_cons, List.map_nil]); first | done | rfl | (simp only [List.length_drop, List.length_take]; rfl)) ?_; (with_reducible refine (offertoryref09_Big_Wide.calls x241000_1 x241001_1 x241002_1 x241003_1 x241004_1 x241005_1 x241006_1 x241007_1 t241 t242 _ A77.out).mono ?_); rintro e w85 ⟨rfl, hb⟩; refine ⟨_, rfl, ?_⟩; have n0_ := Aside0.mk (Kd.R_below (by (with_reducible repeat (first | apply Kd.R_alloc | apply Kd.R_drewN | apply Kd.R_drew)); exact HO_239000.out) hb); have n1_ := offertoryref09_Stats.keepB BK233 hb; have n2_ := offertoryref09_Stats.keepB BK234 hb; have n3_ := offertoryref09_Stats.keepB BK238 hb; have n4_ := offertoryref09_Stats.keepB BK239 hb; have n5_ := offertoryref09_Stats.keepB BK240 hb; have n6_ := Aside0.mk (below_step (by repeat (first | (with_reducible first | exact HB.out | apply below_alloc | apply pw_below_drewN | apply below_drew1 | refine below_set ?_ GE233.out | refine below_set ?_ GE234.out | refine below_set ?_ GE238.out | refine below_set ?_ GE239.out | refine below_set ?_ GE240.out) | exact HB.out)) hb); clear HO_239000; clear BK233; clear BK234; clear BK238; clear BK239; clear BK240; clear HB; have HO_239000 := n0_; have BK233 := n1_; have BK234 := n2_; have BK238 := n3_; have BK239 := n4_; have BK240 := n5_; have HB := n6_; clear n0_ n1_ n2_ n3_ n4_ n5_ n6_; (try clear hb); (try clear hb2); (try clear hk); (try clear hi); have hnb86 := NB238_233.out; have hnc86 := NB233_238.out; have hnb87 := NB238_234.out; have hnc87 := NB234_238.out; have hnb88 := NB238_239.out; have hnc88 := NB239_238.out; have hcz89_0 : w85.cell? ⟨gb238, 0, none⟩ = some (u239000) := (blk_cell BK238.out 0).trans rfl; have hcz89_1 : w85.cell? ⟨gb238, 1, none⟩ = some (.int .i64 (l1.length : Int)) := (blk_cell BK238.out 1).trans rfl; have hcz89_2 : w85.cell? ⟨gb238, 2, none⟩ = some (.int .u64 0) := (blk_cell BK238.out 2).trans rfl; have hcz89_3 : w85.cell? ⟨gb238, 3, none⟩ = some (.int .u64 0) := (blk_cell BK238.out 3).trans rfl; have hcz89_4 : w85.cell? ⟨gb238, 4, none⟩ = some (.int .u64 0) := (blk_cell BK238.out 4).trans rfl; have hcz89_5 : w85.cell? ⟨gb238, 5, none⟩ = some (.int .u64 0) := (blk_cell BK238.out 5).trans rfl; have hcz89_6 : w85.cell? ⟨gb238, 6, none⟩ = some (.bool false) := (blk_cell BK238.out 6).trans rfl; have hfz89_0 := blk_frozen BK238.out 0; have hfz89_1 := blk_frozen BK238.out 1; have hfz89_2 := blk_frozen BK238.out 2; have hfz89_3 := blk_frozen BK238.out 3; have hfz89_4 := blk_frozen BK238.out 4; have hfz89_5 := blk_frozen BK238.out 5; have hfz89_6 := blk_frozen BK238.out 6; have hnb90 := NB239_233.out; have hnc90 := NB233_239.out; have hnb91 := NB239_234.out; have hnc91 := NB234_239.out; have hcz92_0 : w85.cell? ⟨gb239, 0, none⟩ = some (.int .u32 x240000_1) := (blk_cell BK239.out 0).trans rfl; have hcz92_1 : w85.cell? ⟨gb239, 1, none⟩ = some (.int .u32 x240001_1) := (blk_cell BK239.out 1).trans rfl; have hcz92_2 : w85.cell? ⟨gb239, 2, none⟩ = some (.int .u32 x240002_1) := (blk_cell BK239.out 2).trans rfl; have hcz92_3 : w85.cell? ⟨gb239, 3, none⟩ = some (.int .u32 x240003_1) := (blk_cell BK239.out 3).trans rfl; have hcz92_4 : w85.cell? ⟨gb239, 4, none⟩ = some (.int .u32 x240004_1) := (blk_cell BK239.out 4).trans rfl; have hcz92_5 : w85.cell? ⟨gb239, 5, none⟩ = some (.int .u32 x240005_1) := (blk_cell BK239.out 5).trans rfl; have hcz92_6 : w85.cell? ⟨gb239, 6, none⟩ = some (.int .u32 x240006_1) := (blk_cell BK239.out 6).trans rfl; have hcz92_7 : w85.cell? ⟨gb239, 7, none⟩ = some (.int .u32 x240007_1) := (blk_cell BK239.out 7).trans rfl; have hfz92_0 := blk_frozen BK239.out 0; have hfz92_1 := blk_frozen BK239.out 1; have hfz92_2 := blk_frozen BK239.out 2; have hfz92_3 := blk_frozen BK239.out 3; have hfz92_4 := blk_frozen BK239.out 4; have hfz92_5 := blk_frozen BK239.out 5; have hfz92_6 := blk_frozen BK239.out 6; have hfz92_7 := blk_frozen BK239.out 7) | ((with_reducible refine gate_callee (f := 21) rfl ?_); refine goesL_ (some 58) rfl rfl Try.func21 (by kernel_rfl) rfl #[.agg #[.int .u32 x240000_1, .int .u32 x240001_1, .int .u32 x240002_1, .int .u32 x240003_1, .int .u32 x240004_1, .int .u32 x240005_1, .int .u32 x240006_1, .int .u32 x240007_1]] rfl (by (try simp only [List.map_toArray, List.map_cons, List.map_nil]); first | done | rfl | (simp only [List.length_drop, List.length_take]; rfl)) ?_; (with_reducible refine (offertoryref09_Signed.calls x240000_1 x240001_1 x240002_1 x240003_1 x240004_1 x240005_1 x240006_1 x240007_1 t243 t244 t245 t246 t247 t248 t249 t250 t251 _ A78.out).mono ?_); rintro e w93 ⟨rfl, hb⟩; refine ⟨_, rfl, ?_⟩; have n0_ := Aside0.mk (Kd.R_below (by (with_reducible repeat (first | apply Kd.R_alloc | apply Kd.R_drewN | apply Kd.R_drew)); exact (Kd.R_mono (Kd.R_far (p := ⟨gb238, 5, none⟩) (Kd.R_far (p := ⟨gb238, 4, none⟩) (Kd.R_types HO_239000.out BK238.out (by decide)) (fun _ hk => hk.2) (.int .u64 t241)) (fun _ hk => hk.2) (.int .u64 t242)) (fun _ h_ => h_.1))) hb); have n1_ := Aside0.mk (blk_below (g := gb233) (o := .cells #[.int .i64 a0_0, .int .i64 a0_1, .int .i64 a0_2, .slice A0_3 l0_3.length c0_3] 38 (0, 0)) (by (repeat (first | (with_reducible first | refine blk_drewN ?_ _ | refine blk_drew ?_ | refine blk_alloc ?_ _) | refine blk_far ?_ NB233_238.out _)); (with_reducible repeat (first | refine blk_drewN ?_ _ | refine blk_drew ?_ | refine blk_alloc ?_ _)); exact BK233.out) hb); have n2_ := Aside0.mk (blk_below (g := gb234) (o := .cells #[.slice none 0 0, .int .i64 0, .int .u64 0, .int .u64 0, .int .u64 0, .int .u64 0, .bool false] 27 (0, 0)) (by (repeat (first | (with_reducible first | refine blk_drewN ?_ _ | refine blk_drew ?_ | refine blk_alloc ?_ _) | refine blk_far ?_ NB234_238.out _)); (with_reducible repeat (first | refine blk_drewN ?_ _ | refine blk_drew ?_ | refine blk_alloc ?_ _)); exact BK234.out) hb); have n3_ := Aside0.mk (blk_below (g := gb238) (o := .cells #[u239000, .int .i64 (l1.length : Int), .int .u64 0, .int .u64 0, .int .u64 t241, .int .u64 t242, .bool false] 27 (0, 0)) (by (with_reducible repeat (first | refine blk_drewN ?_ _ | refine blk_drew ?_ | refine blk_alloc ?_ _)); refine blk_put (cs := #[u239000, .int .i64 (l1.length : Int), .int .u64 0, .int .u64 0, .int .u64 t241, .int .u64 0, .bool false]) ?_ 5 _ rfl; (with_reducible repeat (first | refine blk_drewN ?_ _ | refine blk_drew ?_ | refine blk_alloc ?_ _)); refine blk_put (cs := #[u239000, .int .i64 (l1.length : Int), .int .u64 0, .int .u64 0, .int .u64 0, .int .u64 0, .bool false]) ?_ 4 _ rfl; (with_reducible repeat (first | refine blk_drewN ?_ _ | refine blk_drew ?_ | refine blk_alloc ?_ _)); exact BK238.out) hb); have n4_ := Aside0.mk (blk_below (g := gb239) (o := .cells #[.int .u32 x240000_1, .int .u32 x240001_1, .int .u32 x240002_1, .int .u32 x240003_1, .int .u32 x240004_1, .int .u32 x240005_1, .int .u32 x240006_1, .int .u32 x240007_1] 52 (0, 0)) (by (repeat (first | (with_reducible first | refine blk_drewN ?_ _ | refine blk_drew ?_ | refine blk_alloc ?_ _) | refine blk_far ?_ NB239_238.out _)); (with_reducible repeat (first | refine blk_drewN ?_ _ | refine blk_drew ?_ | refine blk_alloc ?_ _)); exact BK239.out) hb); have n5_ := Aside0.mk (blk_below (g := gb240) (o := .cells #[.int .u32 x241000_1, .int .u32 x241001_1, .int .u32 x241002_1, .int .u32 x241003_1, .int .u32 x241004_1, .int .u32 x241005_1, .int .u32 x241006_1, .int .u32 x241007_1] 52 (0, 0)) (by (repeat (first | (with_reducible first | refine blk_drewN ?_ _ | refine blk_drew ?_ | refine blk_alloc ?_ _) | refine blk_far ?_ NB240_238.out _)); (with_reducible repeat (first | refine blk_drewN ?_ _ | refine blk_drew ?_ | refine blk_alloc ?_ _)); exact BK240.out) hb); have n6_ := Aside0.mk (below_step (by repeat (first | (with_reducible first | exact HB.out | apply below_alloc | apply pw_below_drewN | apply below_drew1 | refine below_set ?_ GE233.out | refine below_set ?_ GE234.out | refine below_set ?_ GE238.out | refine below_set ?_ GE239.out | refine below_set ?_ GE240.out) | exact HB.out)) hb); clear HO_239000; clear BK233; clear BK234; clear BK238; clear BK239; clear BK240; clear HB; have HO_239000 := n0_; have BK233 := n1_; have BK234 := n2_; have BK238 := n3_; have BK239 := n4_; have BK240 := n5_; have HB := n6_; clear n0_ n1_ n2_ n3_ n4_ n5_ n6_; (try clear hb); (try clear hb2); (try clear hk); (try clear hi); have hcz94_0 : w93.cell? ⟨gb239, 0, none⟩ = some (.int .u32 x240000_1) := (blk_cell BK239.out 0).trans rfl; have hcz94_1 : w93.cell? ⟨gb239, 1, none⟩ = some (.int .u32 x240001_1) := (blk_cell BK239.out 1).trans rfl; have hcz94_2 : w93.cell? ⟨gb239, 2, none⟩ = some (.int .u32 x240002_1) := (blk_cell BK239.out 2).trans rfl; have hcz94_3 : w93.cell? ⟨gb239, 3, none⟩ = some (.int .u32 x240003_1) := (blk_cell BK239.out 3).trans rfl; have hcz94_4 : w93.cell? ⟨gb239, 4, none⟩ = some (.int .u32 x240004_1) := (blk_cell BK239.out 4).trans rfl; have hcz94_5 : w93.cell? ⟨gb239, 5, none⟩ = some (.int .u32 x240005_1) := (blk_cell BK239.out 5).trans rfl; have hcz94_6 : w93.cell? ⟨gb239, 6, none⟩ = some (.int .u32 x240006_1) := (blk_cell BK239.out 6).trans rfl; have hcz94_7 : w93.cell? ⟨gb239, 7, none⟩ = some (.int .u32 x240007_1) := (blk_cell BK239.out 7).trans rfl; have hfz94_0 := blk_frozen BK239.out 0; have hfz94_1 := blk_frozen BK239.out 1; have hfz94_2 := blk_frozen BK239.out 2; have hfz94_3 := blk_frozen BK239.out 3; have hfz94_4 := blk_frozen BK239.out 4; have hfz94_5 := blk_frozen BK239.out 5; have hfz94_6 := blk_frozen BK239.out 6; have hfz94_7 := blk_frozen BK239.out 7; have hcz95_0 : w93.cell? ⟨gb238, 0, none⟩ = some (u239000) := (blk_cell BK238.out 0).trans rfl; have hcz95_1 : w93.cell? ⟨gb238, 1, none⟩ = some (.int .i64 (l1.length : Int)) := (blk_cell BK238.out 1).trans rfl; have hcz95_2 : w93.cell? ⟨gb238, 2, none⟩ = some (.int .u64 0) := (blk_cell BK238.out 2).trans rfl; have hcz95_3 : w93.cell? ⟨gb238, 3, none⟩ = some (.int .u64 0) := (blk_cell BK238.out 3).trans rfl; have hcz95_4 : w93.cell? ⟨gb238, 4, none⟩ = some (.int .u64 t241) := (blk_cell BK238.out 4).trans rfl; have hcz95_5 : w93.cell? ⟨gb238, 5, none⟩ = some (.int .u64 t242) := (blk_cell BK238.out 5).trans rfl; have hcz95_6 : w93.cell? ⟨gb238, 6, none⟩ = some (.bool false) := (blk_cell BK238.out 6).trans rfl; have hfz95_0 := blk_frozen BK238.out 0; have hfz95_1 := blk_frozen BK238.out 1; have hfz95_2 := blk_frozen BK238.out 2; have hfz95_3 := blk_frozen BK238.out 3; have hfz95_4 := blk_frozen BK238.out 4; have hfz95_5 := blk_frozen BK238.out 5; have hfz95_6 := blk_frozen BK238.out 6) | ((with_reducible refine gate_callee (f := 23) rfl ?_); refine goesL_ (some 63) rfl rfl Try.func23 (by kernel_rfl) rfl #[.agg #[.int .u32 t243, .int .u32 t244, .int .u32 t245, .int .u32 t246, .int .u32 t247, .int .u32 t248, .int .u32 t249, .int .u32 t250]] rfl (by (try simp only [List.map_toArray, List.map_cons, List.map_nil]); first | done | rfl | (simp only [List.length_drop, List.length_take]; rfl)) ?_; (with_reducible refine (offertoryref09_Big_Wide.calls t243 t244 t245 t246 t247 t248 t249 t250 t252 t253 _ A79.out).mono ?_); rintro e w96 ⟨rfl, hb⟩; refine ⟨_, rfl, ?_⟩; have n0_ := Aside0.mk (Kd.R_below (by (with_reducible repeat (first | apply Kd.R_alloc | apply Kd.R_drewN | apply Kd.R_drew)); exact (Kd.R_mono (Kd.R_mono (Kd.R_far (p := ⟨gb238, 6, none⟩) (Kd.R_far (p := ⟨gb239, 7, none⟩) (Kd.R_far (p := ⟨gb239, 6, none⟩) (Kd.R_far (p := ⟨gb239, 5, none⟩) (Kd.R_far (p := ⟨gb239, 4, none⟩) (Kd.R_far (p := ⟨gb239, 3, none⟩) (Kd.R_far (p := ⟨gb239, 2, none⟩) (Kd.R_far (p := ⟨gb239, 1, none⟩) (Kd.R_far (p := ⟨gb239, 0, none⟩) (Kd.R_types (Kd.R_types HO_239000.out BK239.out (by decide)) BK238.out (by decide)) (fun _ hk => hk.1.2) (.int .u32 t243)) (fun _ hk => hk.1.2) (.int .u32 t244)) (fun _ hk => hk.1.2) (.int .u32 t245)) (fun _ hk => hk.1.2) (.int .u32 t246)) (fun _ hk => hk.1.2) (.int .u32 t247)) (fun _ hk => hk.1.2) (.int .u32 t248)) (fun _ hk => hk.1.2) (.int .u32 t249)) (fun _ hk => hk.1.2) (.int .u32 t250)) (fun _ hk => hk.2) (.bool t251)) (fun _ h_ => h_.1)) (fun _ h_ => h_.1))) hb); have n1_ := Aside0.mk (blk_below (g := gb233) (o := .cells #[.int .i64 a0_0, .int .i64 a0_1, .int .i64 a0_2, .slice A0_3 l0_3.length c0_3] 38 (0, 0)) (by (with_reducible repeat (first | refine blk_drewN ?_ _ | refine blk_drew ?_ | refine blk_alloc ?_ _)); refine blk_far ?_ NB233_238.out _; (repeat (first | (with_reducible first | refine blk_drewN ?_ _ | refine blk_drew ?_ | refine blk_alloc ?_ _) | refine blk_far ?_ NB233_239.out _)); (with_reducible repeat (first | refine blk_drewN ?_ _ | refine blk_drew ?_ | refine blk_alloc ?_ _)); exact BK233.out) hb); have n2_ := Aside0.mk (blk_below (g := gb234) (o := .cells #[.slice none 0 0, .int .i64 0, .int .u64 0, .int .u64 0, .int .u64 0, .int .u64 0, .bool false] 27 (0, 0)) (by (with_reducible repeat (first | refine blk_drewN ?_ _ | refine blk_drew ?_ | refine blk_alloc ?_ _)); refine blk_far ?_ NB234_238.out _; (repeat (first | (with_reducible first | refine blk_drewN ?_ _ | refine blk_drew ?_ | refine blk_alloc ?_ _) | refine blk_far ?_ NB234_239.out _)); (with_reducible repeat (first | refine blk_drewN ?_ _ | refine blk_drew ?_ | refine blk_alloc ?_ _)); exact BK234.out) hb); have n3_ := Aside0.mk (blk_below (g := gb238) (o := .cells #[u239000, .int .i64 (l1.length : Int), .int .u64 0, .int .u64 0, .int .u64 t241, .int .u64 t242, .bool t251] 27 (0, 0)) (by (with_reducible repeat (first | refine blk_drewN ?_ _ | refine blk_drew ?_ | refine blk_alloc ?_ _)); refine blk_put (cs := #[u239000, .int .i64 (l1.length : Int), .int .u64 0, .int .u64 0, .int .u64 t241, .int .u64 t242, .bool false]) ?_ 6 _ rfl; (repeat (first | (with_reducible first | refine blk_drewN ?_ _ | refine blk_drew ?_ | refine blk_alloc ?_ _) | refine blk_far ?_ NB238_239.out _)); (with_reducible repeat (first | refine blk_drewN ?_ _ | refine blk_drew ?_ | refine blk_alloc ?_ _)); exact BK238.out) hb); have n4_ := Aside0.mk (blk_below (g := gb239) (o := .cells #[.int .u32 t243, .int .u32 t244, .int .u32 t245, .int .u32 t246, .int .u32 t247, .int .u32 t248, .int .u32 t249, .int .u32 t250] 52 (0, 0)) (by (with_reducible repeat (first | refine blk_drewN ?_ _ | refine blk_drew ?_ | refine blk_alloc ?_ _)); refine blk_far ?_ NB239_238.out _; (with_reducible repeat (first | refine blk_drewN ?_ _ | refine blk_drew ?_ | refine blk_alloc ?_ _)); refine blk_put (cs := #[.int .u32 t243, .int .u32 t244, .int .u32 t245, .int .u32 t246, .int .u32 t247, .int .u32 t248, .int .u32 t249, .int .u32 x240007_1]) ?_ 7 _ rfl; (with_reducible repeat (first | refine blk_drewN ?_ _ | refine blk_drew ?_ | refine blk_alloc ?_ _)); refine blk_put (cs := #[.int .u32 t243, .int .u32 t244, .int .u32 t245, .int .u32 t246, .int .u32 t247, .int .u32 t248, .int .u32 x240006_1, .int .u32 x240007_1]) ?_ 6 _ rfl; (with_reducible repeat (first | refine blk_drewN ?_ _ | refine blk_drew ?_ | refine blk_alloc ?_ _)); refine blk_put (cs := #[.int .u32 t243, .int .u32 t244, .int .u32 t245, .int .u32 t246, .int .u32 t247, .int .u32 x240005_1, .int .u32 x240006_1, .int .u32 x240007_1]) ?_ 5 _ rfl; (with_reducible repeat (first | refine blk_drewN ?_ _ | refine blk_drew ?_ | refine blk_alloc ?_ _)); refine blk_put (cs := #[.int .u32 t243, .int .u32 t244, .int .u32 t245, .int .u32 t246, .int .u32 x240004_1, .int .u32 x240005_1, .int .u32 x240006_1, .int .u32 x240007_1]) ?_ 4 _ rfl; (with_reducible repeat (first | refine blk_drewN ?_ _ | refine blk_drew ?_ | refine blk_alloc ?_ _)); refine blk_put (cs := #[.int .u32 t243, .int .u32 t244, .int .u32 t245, .int .u32 x240003_1, .int .u32 x240004_1, .int .u32 x240005_1, .int .u32 x240006_1, .int .u32 x240007_1]) ?_ 3 _ rfl; (with_reducible repeat (first | refine blk_drewN ?_ _ | refine blk_drew ?_ | refine blk_alloc ?_ _)); refine blk_put (cs := #[.int .u32 t243, .int .u32 t244, .int .u32 x240002_1, .int .u32 x240003_1, .int .u32 x240004_1, .int .u32 x240005_1, .int .u32 x240006_1, .int .u32 x240007_1]) ?_ 2 _ rfl; (with_reducible repeat (first | refine blk_drewN ?_ _ | refine blk_drew ?_ | refine blk_alloc ?_ _)); refine blk_put (cs := #[.int .u32 t243, .int .u32 x240001_1, .int .u32 x240002_1, .int .u32 x240003_1, .int .u32 x240004_1, .int .u32 x240005_1, .int .u32 x240006_1, .int .u32 x240007_1]) ?_ 1 _ rfl; (with_reducible repeat (first | refine blk_drewN ?_ _ | refine blk_drew ?_ | refine blk_alloc ?_ _)); refine blk_put (cs := #[.int .u32 x240000_1, .int .u32 x240001_1, .int .u32 x240002_1, .int .u32 x240003_1, .int .u32 x240004_1, .int .u32 x240005_1, .int .u32 x240006_1, .int .u32 x240007_1]) ?_ 0 _ rfl; (with_reducible repeat (first | refine blk_drewN ?_ _ | refine blk_drew ?_ | refine blk_alloc ?_ _)); exact BK239.out) hb); have n5_ := Aside0.mk (blk_below (g := gb240) (o := .cells #[.int .u32 x241000_1, .int .u32 x241001_1, .int .u32 x241002_1, .int .u32 x241003_1, .int .u32 x241004_1, .int .u32 x241005_1, .int .u32 x241006_1, .int .u32 x241007_1] 52 (0, 0)) (by (with_reducible repeat (first | refine blk_drewN ?_ _ | refine blk_drew ?_ | refine blk_alloc ?_ _)); refine blk_far ?_ NB240_238.out _; (repeat (first | (with_reducible first | refine blk_drewN ?_ _ | refine blk_drew ?_ | refine blk_alloc ?_ _) | refine blk_far ?_ NB240_239.out _)); (with_reducible repeat (first | refine blk_drewN ?_ _ | refine blk_drew ?_ | refine blk_alloc ?_ _)); exact BK240.out) hb); have n6_ := Aside0.mk (below_step (by repeat (first | (with_reducible first | exact HB.out | apply below_alloc | apply pw_below_drewN | apply below_drew1 | refine below_set ?_ GE233.out | refine below_set ?_ GE234.out | refine below_set ?_ GE238.out | refine below_set ?_ GE239.out | refine below_set ?_ GE240.out) | exact HB.out)) hb); clear HO_239000; clear BK233; clear BK234; clear BK238; clear BK239; clear BK240; clear HB; have HO_239000 := n0_; have BK233 := n1_; have BK234 := n2_; have BK238 := n3_; have BK239 := n4_; have BK240 := n5_; have HB := n6_; clear n0_ n1_ n2_ n3_ n4_ n5_ n6_; (try clear hb); (try clear hb2); (try clear hk); (try clear hi); have hcz97_0 : w96.cell? ⟨gb238, 0, none⟩ = some (u239000) := (blk_cell BK238.out 0).trans rfl; have hcz97_1 : w96.cell? ⟨gb238, 1, none⟩ = some (.int .i64 (l1.length : Int)) := (blk_cell BK238.out 1).trans rfl; have hcz97_2 : w96.cell? ⟨gb238, 2, none⟩ = some (.int .u64 0) := (blk_cell BK238.out 2).trans rfl; have hcz97_3 : w96.cell? ⟨gb238, 3, none⟩ = some (.int .u64 0) := (blk_cell BK238.out 3).trans rfl; have hcz97_4 : w96.cell? ⟨gb238, 4, none⟩ = some (.int .u64 t241) := (blk_cell BK238.out 4).trans rfl; have hcz97_5 : w96.cell? ⟨gb238, 5, none⟩ = some (.int .u64 t242) := (blk_cell BK238.out 5).trans rfl; have hcz97_6 : w96.cell? ⟨gb238, 6, none⟩ = some (.bool t251) := (blk_cell BK238.out 6).trans rfl; have hfz97_0 := blk_frozen BK238.out 0; have hfz97_1 := blk_frozen BK238.out 1; have hfz97_2 := blk_frozen BK238.out 2; have hfz97_3 := blk_frozen BK238.out 3; have hfz97_4 := blk_frozen BK238.out 4; have hfz97_5 := blk_frozen BK238.out 5; have hfz97_6 := blk_frozen BK238.out 6; obtain ⟨Ao98, co98, eo98⟩ := Kd.R_slice HO_239000.out; subst eo98; have hnb99 := NB234_233.out; have hnc99 := NB233_234.out; have hcz100_0 : w96.cell? ⟨gb234, 0, none⟩ = some (.slice none 0 0) := (blk_cell BK234.out 0).trans rfl; have hcz100_1 : w96.cell? ⟨gb234, 1, none⟩ = some (.int .i64 0) := (blk_cell BK234.out 1).trans rfl; have hcz100_2 : w96.cell? ⟨gb234, 2, none⟩ = some (.int .u64 0) := (blk_cell BK234.out 2).trans rfl; have hcz100_3 : w96.cell? ⟨gb234, 3, none⟩ = some (.int .u64 0) := (blk_cell BK234.out 3).trans rfl; have hcz100_4 : w96.cell? ⟨gb234, 4, none⟩ = some (.int .u64 0) := (blk_cell BK234.out 4).trans rfl; have hcz100_5 : w96.cell? ⟨gb234, 5, none⟩ = some (.int .u64 0) := (blk_cell BK234.out 5).trans rfl; have hcz100_6 : w96.cell? ⟨gb234, 6, none⟩ = some (.bool false) := (blk_cell BK234.out 6).trans rfl; have hfz100_0 := blk_frozen BK234.out 0; have hfz100_1 := blk_frozen BK234.out 1; have hfz100_2 := blk_frozen BK234.out 2; have hfz100_3 := blk_frozen BK234.out 3; have hfz100_4 := blk_frozen BK234.out 4; have hfz100_5 := blk_frozen BK234.out 5; have hfz100_6 := blk_frozen BK234.out 6))
      refine bodyPost_ret (results_cell_row rfl _ _ gb234 27 #[.slice Ao98 x239000_1.length co98, .int .i64 (l1.length : Int), .int .u64 t252, .int .u64 t253, .int .u64 t241, .int .u64 t242, .bool t251] (0, 0) _ rfl (by (with_reducible repeat (first | refine blk_drewN ?_ _ | refine blk_drew ?_ | refine blk_alloc ?_ _)); refine blk_put (cs := #[.slice Ao98 x239000_1.length co98, .int .i64 (l1.length : Int), .int .u64 t252, .int .u64 t253, .int .u64 t241, .int .u64 t242, .bool false]) ?_ 6 _ rfl; (with_reducible repeat (first | refine blk_drewN ?_ _ | refine blk_drew ?_ | refine blk_alloc ?_ _)); refine blk_put (cs := #[.slice Ao98 x239000_1.length co98, .int .i64 (l1.length : Int), .int .u64 t252, .int .u64 t253, .int .u64 t241, .int .u64 0, .bool false]) ?_ 5 _ rfl; (with_reducible repeat (first | refine blk_drewN ?_ _ | refine blk_drew ?_ | refine blk_alloc ?_ _)); refine blk_put (cs := #[.slice Ao98 x239000_1.length co98, .int .i64 (l1.length : Int), .int .u64 t252, .int .u64 t253, .int .u64 0, .int .u64 0, .bool false]) ?_ 4 _ rfl; (with_reducible repeat (first | refine blk_drewN ?_ _ | refine blk_drew ?_ | refine blk_alloc ?_ _)); refine blk_put (cs := #[.slice Ao98 x239000_1.length co98, .int .i64 (l1.length : Int), .int .u64 t252, .int .u64 0, .int .u64 0, .int .u64 0, .bool false]) ?_ 3 _ rfl; (with_reducible repeat (first | refine blk_drewN ?_ _ | refine blk_drew ?_ | refine blk_alloc ?_ _)); refine blk_put (cs := #[.slice Ao98 x239000_1.length co98, .int .i64 (l1.length : Int), .int .u64 0, .int .u64 0, .int .u64 0, .int .u64 0, .bool false]) ?_ 2 _ rfl; (with_reducible repeat (first | refine blk_drewN ?_ _ | refine blk_drew ?_ | refine blk_alloc ?_ _)); refine blk_put (cs := #[.slice Ao98 x239000_1.length co98, .int .i64 0, .int .u64 0, .int .u64 0, .int .u64 0, .int .u64 0, .bool false]) ?_ 1 _ rfl; (with_reducible repeat (first | refine blk_drewN ?_ _ | refine blk_drew ?_ | refine blk_alloc ?_ _)); refine blk_put (cs := #[.slice none 0 0, .int .i64 0, .int .u64 0, .int .u64 0, .int .u64 0, .int .u64 0, .bool false]) ?_ 0 _ rfl; (repeat (first | (with_reducible first | refine blk_drewN ?_ _ | refine blk_drew ?_ | refine blk_alloc ?_ _) | refine blk_far ?_ NB234_238.out _)); (with_reducible repeat (first | refine blk_drewN ?_ _ | refine blk_drew ?_ | refine blk_alloc ?_ _)); exact BK234.out) Try.underlying27 rfl (by kernel_rfl)) rfl ?_
      exact ⟨_, by first | rfl | (simp [errW_none, errW_some] <;> rfl) | (simp only [← hji3]; first | rfl | (simp [errW_none, errW_some] <;> rfl)) | (simp [*, errW_none, errW_some] <;> rfl), by (with_reducible repeat (first | apply Kd.R_alloc | apply Kd.R_drewN | apply Kd.R_drew)); exact Kd.R_mono (Kd.R_far (p := ⟨gb234, 6, none⟩) (Kd.R_far (p := ⟨gb234, 5, none⟩) (Kd.R_far (p := ⟨gb234, 4, none⟩) (Kd.R_far (p := ⟨gb234, 3, none⟩) (Kd.R_far (p := ⟨gb234, 2, none⟩) (Kd.R_far (p := ⟨gb234, 1, none⟩) (Kd.R_far (p := ⟨gb234, 0, none⟩) (Kd.R_far (p := ⟨gb238, 3, none⟩) (Kd.R_far (p := ⟨gb238, 2, none⟩) (Kd.R_types (Kd.R_types HO_239000.out BK238.out (by decide)) BK234.out (by decide)) (fun _ hk => hk.1.2) (.int .u64 t252)) (fun _ hk => hk.1.2) (.int .u64 t253)) (fun _ hk => hk.2) (.slice Ao98 x239000_1.length co98)) (fun _ hk => hk.2) (.int .i64 (l1.length : Int))) (fun _ hk => hk.2) (.int .u64 t252)) (fun _ hk => hk.2) (.int .u64 t253)) (fun _ hk => hk.2) (.int .u64 t241)) (fun _ hk => hk.2) (.int .u64 t242)) (fun _ hk => hk.2) (.bool t251)) (fun _ hk => trivial), by repeat (first | (with_reducible first | exact HB.out | apply below_alloc | apply pw_below_drewN | apply below_drew1 | refine below_set ?_ GE233.out | refine below_set ?_ GE234.out | refine below_set ?_ GE238.out | refine below_set ?_ GE239.out | refine below_set ?_ GE240.out) | exact HB.out)⟩
  ·
   rw [if_neg c5] at H
   exact absurd H (by simp)
 ·
  rw [if_neg c4] at H
  exact absurd H (by simp)

end Go.Proofs.Yticihbccflflfaa.PAll
