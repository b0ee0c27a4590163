/- The Go functions that the laws reach, as Lean functions, and that each call comes to what its function says. Written by a program of this session (a turned copy of the kit's print). No condition beyond those that each theorem states. -/
import Derived.Test.YthokkogdkpmdcaaPAllx0
import Derived.Test.YthokkogdkpmdcaaPAllx5
import Derived.Test.YthokkogdkpmdcaaPAllx6
import Derived.Test.YthokkogdkpmdcaaPAllx7
namespace Go.Proofs.Ythokkogdkpmdcaa.PAll
open Go.RowKit Go.Proofs.YthokkogdkpmdcaaW.PrintWords Go.Proofs.YthokkogdkpmdcaaW.PrintLast Go.Proofs.YthokkogdkpmdcaaW.PrintMore
attribute [local go_sem] max2_int min2_int max_two min_two max_three min_three max_four min_four   -- for this text's walks alone
set_option linter.unusedVariables false
set_option linter.unusedSimpArgs false

theorem offertoryref09_Stats.keepB {W0 W w1 : World} {g : Nat} {o : Obj} (h : Aside0 (W0.heap[g]? = some o)) (hb : Below W.heap.size W w1) (hs : W0.heap[g]? = some o → W.heap[g]? = some o := by intro h_; (with_reducible repeat (first | refine blk_drewN ?_ _ | refine blk_drew ?_ | refine blk_alloc ?_ _)); exact h_) : Aside0 (w1.heap[g]? = some o) := ⟨(hb.block g (blk_lt (hs h.out))).trans (hs h.out)⟩
theorem offertoryref09_Stats.neL {W0 W : World} {g gb : Nat} {o : Obj} (h : Aside0 (W0.heap[g]? = some o)) (hg : gb = W.heap.size) (hs : W0.heap[g]? = some o → W.heap[g]? = some o := by intro h_; (with_reducible repeat (first | refine blk_drewN ?_ _ | refine blk_drew ?_ | refine blk_alloc ?_ _)); exact h_) : Aside0 (g ≠ gb) := ⟨by rw [hg]; exact Nat.ne_of_lt (blk_lt (hs h.out))⟩
theorem offertoryref09_Stats.neG {W0 W : World} {g gb : Nat} {o : Obj} (h : Aside0 (W0.heap[g]? = some o)) (hg : gb = W.heap.size) (hs : W0.heap[g]? = some o → W.heap[g]? = some o := by intro h_; (with_reducible repeat (first | refine blk_drewN ?_ _ | refine blk_drew ?_ | refine blk_alloc ?_ _)); exact h_) : Aside0 (gb ≠ g) := ⟨by rw [hg]; exact Nat.ne_of_gt (blk_lt (hs h.out))⟩
/-! ### offertoryref09_Stats: function 18 -/
def offertoryref09_Stats.l0 : Nat → List Int → Int → Int → Int → Int → List Int → List Int → Int → Int → Int → Int → Int → Bool → Int → Int → Int → Int → Int → Int → Int → Int → Int → Int → Int → Int → Int → Int → Int → Int → Option (List Int × Int × Int × Int × Int × Int × Bool)
 | 0, _, _, _, _, _, _, _, _, _, _, _, _, _, _, _, _, _, _, _, _, _, _, _, _, _, _, _, _, _ => none
 | k + 1, x1, x8, x160000, x160001, x160002, x160003, x165000, x165001, x165002, x165003, x165004, x165005, x165006, x166000, x166001, x166002, x166003, x166004, x166005, x166006, x166007, x167000, x167001, x167002, x167003, x167004, x167005, x167006, x167007 => if x8 < (x1.length : Int) then (if 0 ≤ x8 then ((offertoryref09_Bin.f k x160000 x160001 x160002 x160003 (rd x1 x8)).bind fun t181 => (if 0 ≤ t181 then (if t181 < (x165000.length : Int) then ((offertoryref09_Clamp.f x160000 x160001 x160002 x160003 (rd x1 x8)).bind fun t185 => ((offertoryref09_Int.f t185).bind fun bt186 => ((offertoryref09_Add.f x166000 x166001 x166002 x166003 x166004 x166005 x166006 x166007 bt186.1 bt186.2.1 bt186.2.2.1 bt186.2.2.2.1 bt186.2.2.2.2.1 bt186.2.2.2.2.2.1 bt186.2.2.2.2.2.2.1 bt186.2.2.2.2.2.2.2).bind fun bt195 => ((offertoryref09_Mul.f bt186.1 bt186.2.1 bt186.2.2.1 bt186.2.2.2.1 bt186.2.2.2.2.1 bt186.2.2.2.2.2.1 bt186.2.2.2.2.2.2.1 bt186.2.2.2.2.2.2.2 bt186.1 bt186.2.1 bt186.2.2.1 bt186.2.2.2.1 bt186.2.2.2.2.1 bt186.2.2.2.2.2.1 bt186.2.2.2.2.2.2.1 bt186.2.2.2.2.2.2.2).bind fun bt203 => ((offertoryref09_Add.f x167000 x167001 x167002 x167003 x167004 x167005 x167006 x167007 bt203.1 bt203.2.1 bt203.2.2.1 bt203.2.2.2.1 bt203.2.2.2.2.1 bt203.2.2.2.2.2.1 bt203.2.2.2.2.2.2.1 bt203.2.2.2.2.2.2.2).bind fun bt211 => (offertoryref09_Stats.l0 k x1 (wrap64 (x8 + 1)) x160000 x160001 x160002 x160003 (x165000.set (t181 : Int).toNat (wrap64 ((rd x165000 t181) + 1))) x165001 x165002 x165003 x165004 x165005 x165006 bt195.1 bt195.2.1 bt195.2.2.1 bt195.2.2.2.1 bt195.2.2.2.2.1 bt195.2.2.2.2.2.1 bt195.2.2.2.2.2.2.1 bt195.2.2.2.2.2.2.2 bt211.1 bt211.2.1 bt211.2.2.1 bt211.2.2.2.1 bt211.2.2.2.2.1 bt211.2.2.2.2.2.1 bt211.2.2.2.2.2.2.1 bt211.2.2.2.2.2.2.2)))))) else (none)) else (none))) else (none)) else ((offertoryref09_Big_Wide.f x167000 x167001 x167002 x167003 x167004 x167005 x167006 x167007).bind fun bt167 => ((offertoryref09_Signed.f x166000 x166001 x166002 x166003 x166004 x166005 x166006 x166007).bind fun bt169 => ((offertoryref09_Big_Wide.f bt169.1 bt169.2.1 bt169.2.2.1 bt169.2.2.2.1 bt169.2.2.2.2.1 bt169.2.2.2.2.2.1 bt169.2.2.2.2.2.2.1 bt169.2.2.2.2.2.2.2.1).bind fun bt178 => (some (x165000, x165001, bt178.1, bt178.2, bt167.1, bt167.2, bt169.2.2.2.2.2.2.2.2)))))
def offertoryref09_Stats.f (k : Nat) (a0_0 : Int) (a0_1 : Int) (a0_2 : Int) (l0_3 : List Int) (l1 : List Int) : Option (List Int × Int × Int × Int × Int × Int × Bool) := if 0 ≤ (wrap64 ((l0_3.length : Int) + 1)) then (if (wrap64 ((l0_3.length : Int) + 1) : Int).toNat ≤ 35184372088832 then (offertoryref09_Stats.l0 k l1 0 a0_0 a0_1 a0_2 l0_3 (List.replicate (wrap64 ((l0_3.length : Int) + 1) : Int).toNat 0) (l1.length : Int) 0 0 0 0 false 0 0 0 0 0 0 0 0 0 0 0 0 0 0 0 0) else (none)) else (none)
theorem offertoryref09_Stats.mono_l : ∀ k, (∀ y0 y1 y2 y3 y4 y5 y6 y7 y8 y9 y10 y11 y12 y13 y14 y15 y16 y17 y18 y19 y20 y21 y22 y23 y24 y25 y26 y27 y28, LeO (offertoryref09_Stats.l0 k y0 y1 y2 y3 y4 y5 y6 y7 y8 y9 y10 y11 y12 y13 y14 y15 y16 y17 y18 y19 y20 y21 y22 y23 y24 y25 y26 y27 y28) (offertoryref09_Stats.l0 (k + 1) y0 y1 y2 y3 y4 y5 y6 y7 y8 y9 y10 y11 y12 y13 y14 y15 y16 y17 y18 y19 y20 y21 y22 y23 y24 y25 y26 y27 y28))
 | 0 => fun _ _ _ _ _ _ _ _ _ _ _ _ _ _ _ _ _ _ _ _ _ _ _ _ _ _ _ _ _ r h => by simp [offertoryref09_Stats.l0] at h
 | k + 1 => by
  have ih0 := offertoryref09_Stats.mono_l k
  ·
   intro y0 y1 y2 y3 y4 y5 y6 y7 y8 y9 y10 y11 y12 y13 y14 y15 y16 y17 y18 y19 y20 y21 y22 y23 y24 y25 y26 y27 y28
   unfold offertoryref09_Stats.l0
   repeat' first
   | (with_reducible exact ih0 _ _ _ _ _ _ _ _ _ _ _ _ _ _ _ _ _ _ _ _ _ _ _ _ _ _ _ _ _)
   | (with_reducible exact offertoryref09_Bin.mono _ _ _ _ _ _)
   | (with_reducible exact LeO.refl _)
   | (with_reducible exact LeO.none _)
   | (with_reducible refine LeO.ite ?_ ?_)
   | (with_reducible refine LeO.bind ?_ (fun _ => ?_))
   | exact ih0 _ _ _ _ _ _ _ _ _ _ _ _ _ _ _ _ _ _ _ _ _ _ _ _ _ _ _ _ _
   | exact offertoryref09_Bin.mono _ _ _ _ _ _
   | exact LeO.none _
   | refine LeO.ite ?_ ?_
   | refine LeO.bind ?_ (fun _ => ?_)
theorem offertoryref09_Stats.mono : ∀ a0 a1 a2 a3 a4 k, LeO (offertoryref09_Stats.f k a0 a1 a2 a3 a4) (offertoryref09_Stats.f (k + 1) a0 a1 a2 a3 a4) := by
 intro a0 a1 a2 a3 a4 k
 have ih0 := offertoryref09_Stats.mono_l k
 unfold offertoryref09_Stats.f
 repeat' first
   | (with_reducible exact ih0 _ _ _ _ _ _ _ _ _ _ _ _ _ _ _ _ _ _ _ _ _ _ _ _ _ _ _ _ _)
   | (with_reducible exact offertoryref09_Bin.mono _ _ _ _ _ _)
   | (with_reducible exact LeO.refl _)
   | (with_reducible exact LeO.none _)
   | (with_reducible refine LeO.ite ?_ ?_)
   | (with_reducible refine LeO.bind ?_ (fun _ => ?_))
   | exact ih0 _ _ _ _ _ _ _ _ _ _ _ _ _ _ _ _ _ _ _ _ _ _ _ _ _ _ _ _ _
   | exact offertoryref09_Bin.mono _ _ _ _ _ _
   | exact LeO.none _
   | refine LeO.ite ?_ ?_
   | refine LeO.bind ?_ (fun _ => ?_)
def offertoryref09_Stats.T6 : Bool × List (List Nat × List Nat) := (true, [([], []), ([0], [0]), ([], []), ([], []), ([], []), ([3, 4], [3, 4]), ([5], [5]), ([2, 6], [2, 6]), ([1, 7], [1, 7]), ([8], [8]), ([9], [9]), ([1, 7, 0, 1, 2, 3, 4, 5, 6, 7, 8, 9, 10], [1, 7]), ([11, 10, 7, 0, 1, 2, 3, 4, 5, 6, 7, 8, 9, 10], [10, 11])])
def offertoryref09_Stats.B6 : List Nat := [0, 1, 0, 0, 0, 24, 56, 124, 255, 511, 1023, 2047, 4095]
theorem offertoryref09_Stats.tab6 : rtab .any (opsOf Try.f18 6) = offertoryref09_Stats.T6 := by kernel_rfl
theorem offertoryref09_Stats.bits6 : waitsOk offertoryref09_Stats.T6.2 offertoryref09_Stats.B6 = true := by kernel_rfl
def offertoryref09_Stats.T7 : Bool × List (List Nat × List Nat) := (true, [([], []), ([], []), ([], []), ([1, 2], [1, 2]), ([3], [3]), ([0, 4], [0, 4]), ([5, 5], [5]), ([], []), ([7, 6, 6, 0, 1, 2, 3, 4, 5, 6, 7], [6, 7])])
def offertoryref09_Stats.B7 : List Nat := [0, 0, 0, 6, 14, 31, 63, 0, 255]
theorem offertoryref09_Stats.tab7 : rtab .any (opsOf Try.f18 7) = offertoryref09_Stats.T7 := by kernel_rfl
theorem offertoryref09_Stats.bits7 : waitsOk offertoryref09_Stats.T7.2 offertoryref09_Stats.B7 = true := by kernel_rfl
def offertoryref09_Stats.T8 : Bool × List (List Nat × List Nat) := (true, [([], []), ([], []), ([0, 1], [0, 1]), ([], []), ([], []), ([], []), ([4, 5, 2], [4, 5]), ([3, 6, 6], [3, 6]), ([2, 7, 0, 1, 2], [2]), ([7, 8, 0, 1, 2, 3, 4, 5, 6, 7, 8], [7])])
def offertoryref09_Stats.B8 : List Nat := [0, 0, 3, 0, 0, 0, 55, 127, 255, 511]
theorem offertoryref09_Stats.tab8 : rtab .any (opsOf Try.f18 8) = offertoryref09_Stats.T8 := by kernel_rfl
theorem offertoryref09_Stats.bits8 : waitsOk offertoryref09_Stats.T8.2 offertoryref09_Stats.B8 = true := by kernel_rfl
set_option maxHeartbeats 8000000 in
set_option maxRecDepth 100000 in
theorem offertoryref09_Stats.calls (k : Nat) (a0_0 : Int) (a0_1 : Int) (a0_2 : Int) (A0_3 : Option Addr) (c0_3 : Nat) (l0_3 : List Int) (A1 : Option Addr) (c1 : Nat) (l1 : List Int) (r1 : List Int) (r2 : Int) (r3 : Int) (r4 : Int) (r5 : Int) (r6 : Int) (r7 : Bool) (w : World) (hr0_3 : Kd.C (Kd.int .i64) w A0_3 l0_3.length l0_3) (hc0_3 : l0_3.length ≤ c0_3) (hr1 : Kd.C (Kd.int .i64) w A1 l1.length l1) (hc1 : l1.length ≤ c1) (h : offertoryref09_Stats.f k a0_0 a0_1 a0_2 l0_3 l1 = some (r1, r2, r3, r4, r5, r6, r7)) :
  Calls Try.prog 18 #[.agg #[.int .i64 a0_0, .int .i64 a0_1, .int .i64 a0_2, .slice A0_3 l0_3.length c0_3], .slice A1 l1.length c1] w fun e w' => ∃ v0_ : Value, e = .returned (.agg #[v0_, .int .i64 r2, .int .u64 r3, .int .u64 r4, .int .u64 r5, .int .u64 r6, .bool r7]) ∧ Kd.R (Kd.int .i64) 3 w' w.heap.size (fun _ => True) v0_ r1 ∧ Below w.heap.size w w' := by
 have hu24 := Try.underlying24
 have hu36 := Try.underlying36
 have hu41 := Try.underlying41
 have hu34 := Try.underlying34
 have HR0_3 := Aside0.mk hr0_3
 have HC0_3 := Aside0.mk hc0_3
 clear hr0_3 hc0_3
 have HR1 := Aside0.mk hr1
 have HC1 := Aside0.mk hc1
 clear hr1 hc1
 have HB := Aside0.mk (Below.refl w.heap.size w)
 have H : (if 0 ≤ (wrap64 ((l0_3.length : Int) + 1)) then (if (wrap64 ((l0_3.length : Int) + 1) : Int).toNat ≤ 35184372088832 then (offertoryref09_Stats.l0 k l1 0 a0_0 a0_1 a0_2 l0_3 (List.replicate (wrap64 ((l0_3.length : Int) + 1) : Int).toNat 0) (l1.length : Int) 0 0 0 0 false 0 0 0 0 0 0 0 0 0 0 0 0 0 0 0 0) else (none)) else (none)) = some (r1, r2, r3, r4, r5, r6, r7) := h
 clear h
 obtain ⟨ji3, hji3⟩ : ∃ j_ : Int, (wrap64 ((l0_3.length : Int) + 1)) = j_ := ⟨_, rfl⟩
 replace H : (if 0 ≤ (ji3) then (if (ji3 : Int).toNat ≤ 35184372088832 then (offertoryref09_Stats.l0 k l1 0 a0_0 a0_1 a0_2 l0_3 (List.replicate (ji3 : Int).toNat 0) (l1.length : Int) 0 0 0 0 false 0 0 0 0 0 0 0 0 0 0 0 0 0 0 0 0) else (none)) else (none)) = some (r1, r2, r3, r4, r5, r6, r7) := by first | (rw [hji3] at H; exact H) | (simp only [hji3] at H ⊢; exact H)
 have hji3w : (IntKind.i64.wrap ((l0_3.length : Int) + 1)) = ji3 := (i64_w _).trans hji3
 by_cases c4 : 0 ≤ (ji3)
 ·
  rw [if_pos c4] at H
  have c4b0 := eq_true c4
  have c4b1 : decide (0 ≤ (ji3)) = true := decide_eq_true c4
  clear c4
  by_cases c5 : (ji3 : Int).toNat ≤ 35184372088832
  ·
   rw [if_pos c5] at H
   have c5b0 := eq_true c5
   have c5b1 : decide ((ji3 : Int).toNat ≤ 35184372088832) = true := decide_eq_true c5
   clear c5
   obtain ⟨y161, hy161⟩ : ∃ y_ : List Int, y_ = (List.replicate (ji3 : Int).toNat 0) := ⟨_, rfl⟩
   replace H : (offertoryref09_Stats.l0 k l1 0 a0_0 a0_1 a0_2 l0_3 y161 (l1.length : Int) 0 0 0 0 false 0 0 0 0 0 0 0 0 0 0 0 0 0 0 0 0) = some (r1, r2, r3, r4, r5, r6, r7) := by first | (rw [hy161]; with_reducible exact H) | (have H2_ := (Option.bind_some _ _).symm.trans H; rw [hy161]; with_reducible exact H2_) | (have H2_ := (Option.bind_some _ _).symm.trans H; with_reducible exact H2_) | with_reducible exact H | (rw [hy161]; exact H) | exact H
   have Ny161 := Aside0.mk hy161
   clear hy161
   have H' := Aside0.mk H
   clear H
   go_enter Try.func18, Try.ntmps18
   go_wp2_with (first | ((with_reducible refine gate_dst (N := 2) rfl ?_); refine box_event ?hg (N := 2) ?hd (cs := #[.int .i64 a0_0, .int .i64 a0_1, .int .i64 a0_2, .slice A0_3 l0_3.length c0_3]) (t := 24) ?hr ?_; (case hd => rfl); (case hg => rfl); (case hr => first | (go_simp; done) | (go_simp; rfl)); intro gb159 hg w6 hbox hb; have n0_ := Aside0.mk (below_step (by repeat (first | (with_reducible first | exact HB.out | apply below_alloc | apply pw_below_drewN | apply below_drew1) | exact HB.out)) hb); have n1_ := Aside0.mk (hbox); have n2_ := Aside0.mk ((by rw [hg]; exact (below_size (by repeat (first | (with_reducible first | exact HB.out | apply below_alloc | apply pw_below_drewN | apply below_drew1) | exact HB.out))) : w.heap.size ≤ gb159)); have n3_ := Aside0.mk ((by rw [hg]; exact (below_size (by repeat (first | (with_reducible first | exact HB.out | apply below_alloc | apply pw_below_drewN | apply below_drew1) | exact HB.out))) : w.heap.size ≤ gb159)); clear HB; have HB := n0_; have BK159 := n1_; have GW159 := n2_; have GE159 := n3_; clear n0_ n1_ n2_ n3_; clear hb hbox hg) | ((with_reducible refine gate_dst (N := 4) rfl ?_); refine box_event ?hg (N := 4) ?hd (cs := #[.slice none 0 0, .int .i64 0, .int .u64 0, .int .u64 0, .int .u64 0, .int .u64 0, .bool false]) (t := 36) ?hr ?_; (case hd => rfl); (case hg => rfl); (case hr => first | (go_simp; done) | (go_simp; rfl)); intro gb160 hg w7 hbox hb; have n0_ := offertoryref09_Stats.keepB BK159 hb; have n1_ := Aside0.mk (below_step (by repeat (first | (with_reducible first | exact HB.out | apply below_alloc | apply pw_below_drewN | apply below_drew1 | refine below_set ?_ GE159.out) | exact HB.out)) hb); have n2_ := Aside0.mk (hbox); have n3_ := Aside0.mk ((by rw [hg]; exact (below_size (by repeat (first | (with_reducible first | exact HB.out | apply below_alloc | apply pw_below_drewN | apply below_drew1 | refine below_set ?_ GE159.out) | exact HB.out))) : w.heap.size ≤ gb160)); have n4_ := Aside0.mk ((by rw [hg]; exact (below_size (by repeat (first | (with_reducible first | exact HB.out | apply below_alloc | apply pw_below_drewN | apply below_drew1 | refine below_set ?_ GE159.out) | exact HB.out))) : w.heap.size ≤ gb160)); have n5_ := offertoryref09_Stats.neL BK159 hg; have n6_ := offertoryref09_Stats.neG BK159 hg; clear BK159; clear HB; have BK159 := n0_; have HB := n1_; have BK160 := n2_; have GW160 := n3_; have GE160 := n4_; have NB159_160 := n5_; have NB160_159 := n6_; clear n0_ n1_ n2_ n3_ n4_ n5_ n6_; clear hb hbox hg; have hnb8 := NB159_160.out; have hnc8 := NB160_159.out; have hcz9_0 : w7.cell? ⟨gb159, 0, none⟩ = some (.int .i64 a0_0) := (blk_cell BK159.out 0).trans rfl; have hcz9_1 : w7.cell? ⟨gb159, 1, none⟩ = some (.int .i64 a0_1) := (blk_cell BK159.out 1).trans rfl; have hcz9_2 : w7.cell? ⟨gb159, 2, none⟩ = some (.int .i64 a0_2) := (blk_cell BK159.out 2).trans rfl; have hcz9_3 : w7.cell? ⟨gb159, 3, none⟩ = some (.slice A0_3 l0_3.length c0_3) := (blk_cell BK159.out 3).trans rfl; have hfz9_0 := blk_frozen BK159.out 0; have hfz9_1 := blk_frozen BK159.out 1; have hfz9_2 := blk_frozen BK159.out 2; have hfz9_3 := blk_frozen BK159.out 3) | ((with_reducible refine gate_dst (N := 14) rfl ?_); refine Kd.R_make (Kd.int .i64) _ 3 rfl (N := 14) rfl 22 _ _ rfl ji3 rfl rfl Try.underlying22 (.int .i64 0) 8 info3 rfl (by decide) (by omega) 0 (ok := fun _ => True) (okp := fun _ => True) rfl (fun _ hk => hk) trivial (of_decide_eq_true (by first | (with_reducible assumption) | assumption)) (Nat.le_trans (Nat.mul_le_mul_right _ (of_decide_eq_true (by first | (with_reducible assumption) | assumption) : ji3.toNat ≤ 35184372088832)) (by omega)) (Below.refl _ _) (Nat.le_refl _) ?_; intro v162 w10 ho11 hb hg_ hnew_; clear hg_ hnew_; (first | rw [← Ny161.out] at ho11 | (simp only [Int.reduceToNat] at ho11; rw [← Ny161.out] at ho11)); have n0_ := Aside0.mk (Kd.R_lower ho11 (below_size (by repeat (first | (with_reducible first | exact HB.out | apply below_alloc | apply pw_below_drewN | apply below_drew1 | refine below_set ?_ GE159.out | refine below_set ?_ GE160.out) | exact HB.out)))); have n1_ := offertoryref09_Stats.keepB BK159 hb; have n2_ := offertoryref09_Stats.keepB BK160 hb; have n3_ := Aside0.mk (below_step (by repeat (first | (with_reducible first | exact HB.out | apply below_alloc | apply pw_below_drewN | apply below_drew1 | refine below_set ?_ GE159.out | refine below_set ?_ GE160.out) | exact HB.out)) hb); clear BK159; clear BK160; clear HB; have HO163 := n0_; have BK159 := n1_; have BK160 := n2_; have HB := n3_; clear n0_ n1_ n2_ n3_; clear hb ho11; obtain ⟨Ao12, co12, eo12⟩ := Kd.R_slice HO163.out; subst eo12) | ((with_reducible refine gate_dst (N := 5) rfl ?_); refine box_event ?hg (N := 5) ?hd (cs := #[.slice none 0 0, .int .i64 0, .int .u64 0, .int .u64 0, .int .u64 0, .int .u64 0, .bool false]) (t := 36) ?hr ?_; (case hd => rfl); (case hg => rfl); (case hr => first | (go_simp; done) | (go_simp; rfl)); intro gb164 hg w13 hbox hb; have n0_ := Aside0.mk (Kd.R_below (by (with_reducible repeat (first | apply Kd.R_alloc | apply Kd.R_drewN | apply Kd.R_drew)); exact HO163.out) hb); have n1_ := offertoryref09_Stats.keepB BK159 hb; have n2_ := offertoryref09_Stats.keepB BK160 hb; have n3_ := Aside0.mk (below_step (by repeat (first | (with_reducible first | exact HB.out | apply below_alloc | apply pw_below_drewN | apply below_drew1 | refine below_set ?_ GE159.out | refine below_set ?_ GE160.out) | exact HB.out)) hb); have n4_ := Aside0.mk (hbox); have n5_ := Aside0.mk ((by rw [hg]; exact (below_size (by repeat (first | (with_reducible first | exact HB.out | apply below_alloc | apply pw_below_drewN | apply below_drew1 | refine below_set ?_ GE159.out | refine below_set ?_ GE160.out) | exact HB.out))) : w.heap.size ≤ gb164)); have n6_ := Aside0.mk ((by rw [hg]; exact (below_size (by repeat (first | (with_reducible first | exact HB.out | apply below_alloc | apply pw_below_drewN | apply below_drew1 | refine below_set ?_ GE159.out | refine below_set ?_ GE160.out) | exact HB.out))) : w.heap.size ≤ gb164)); have n7_ := offertoryref09_Stats.neL BK159 hg; have n8_ := offertoryref09_Stats.neG BK159 hg; have n9_ := offertoryref09_Stats.neL BK160 hg; have n10_ := offertoryref09_Stats.neG BK160 hg; clear HO163; clear BK159; clear BK160; clear HB; have HO163 := n0_; have BK159 := n1_; have BK160 := n2_; have HB := n3_; have BK164 := n4_; have GW164 := n5_; have GE164 := n6_; have NB159_164 := n7_; have NB164_159 := n8_; have NB160_164 := n9_; have NB164_160 := n10_; clear n0_ n1_ n2_ n3_ n4_ n5_ n6_ n7_ n8_ n9_ n10_; clear hb hbox hg; have hnb14 := NB164_159.out; have hnc14 := NB159_164.out; have hnb15 := NB164_160.out; have hnc15 := NB160_164.out; have hcz16_0 : w13.cell? ⟨gb164, 0, none⟩ = some (.slice none 0 0) := (blk_cell BK164.out 0).trans rfl; have hcz16_1 : w13.cell? ⟨gb164, 1, none⟩ = some (.int .i64 0) := (blk_cell BK164.out 1).trans rfl; have hcz16_2 : w13.cell? ⟨gb164, 2, none⟩ = some (.int .u64 0) := (blk_cell BK164.out 2).trans rfl; have hcz16_3 : w13.cell? ⟨gb164, 3, none⟩ = some (.int .u64 0) := (blk_cell BK164.out 3).trans rfl; have hcz16_4 : w13.cell? ⟨gb164, 4, none⟩ = some (.int .u64 0) := (blk_cell BK164.out 4).trans rfl; have hcz16_5 : w13.cell? ⟨gb164, 5, none⟩ = some (.int .u64 0) := (blk_cell BK164.out 5).trans rfl; have hcz16_6 : w13.cell? ⟨gb164, 6, none⟩ = some (.bool false) := (blk_cell BK164.out 6).trans rfl; have hfz16_0 := blk_frozen BK164.out 0; have hfz16_1 := blk_frozen BK164.out 1; have hfz16_2 := blk_frozen BK164.out 2; have hfz16_3 := blk_frozen BK164.out 3; have hfz16_4 := blk_frozen BK164.out 4; have hfz16_5 := blk_frozen BK164.out 5; have hfz16_6 := blk_frozen BK164.out 6) | ((with_reducible refine gate_dst (N := 6) rfl ?_); refine box_event ?hg (N := 6) ?hd (cs := #[.int .u32 0, .int .u32 0, .int .u32 0, .int .u32 0, .int .u32 0, .int .u32 0, .int .u32 0, .int .u32 0]) (t := 41) ?hr ?_; (case hd => rfl); (case hg => rfl); (case hr => first | (go_simp; done) | (go_simp; rfl)); intro gb165 hg w17 hbox hb; have n0_ := Aside0.mk (Kd.R_below (by (with_reducible repeat (first | apply Kd.R_alloc | apply Kd.R_drewN | apply Kd.R_drew)); exact (Kd.R_mono (Kd.R_far (p := ⟨gb164, 6, none⟩) (Kd.R_far (p := ⟨gb164, 5, none⟩) (Kd.R_far (p := ⟨gb164, 4, none⟩) (Kd.R_far (p := ⟨gb164, 3, none⟩) (Kd.R_far (p := ⟨gb164, 2, none⟩) (Kd.R_far (p := ⟨gb164, 1, none⟩) (Kd.R_far (p := ⟨gb164, 0, none⟩) (Kd.R_types HO163.out BK164.out (by decide)) (fun _ hk => hk.2) (.slice Ao12 y161.length co12)) (fun _ hk => hk.2) (.int .i64 (l1.length : Int))) (fun _ hk => hk.2) (.int .u64 0)) (fun _ hk => hk.2) (.int .u64 0)) (fun _ hk => hk.2) (.int .u64 0)) (fun _ hk => hk.2) (.int .u64 0)) (fun _ hk => hk.2) (.bool false)) (fun _ h_ => h_.1))) hb); have n1_ := Aside0.mk (blk_below (g := gb159) (o := .cells #[.int .i64 a0_0, .int .i64 a0_1, .int .i64 a0_2, .slice A0_3 l0_3.length c0_3] 24 (0, 0)) (by (repeat (first | (with_reducible first | refine blk_drewN ?_ _ | refine blk_drew ?_ | refine blk_alloc ?_ _) | refine blk_far ?_ NB159_164.out _)); (with_reducible repeat (first | refine blk_drewN ?_ _ | refine blk_drew ?_ | refine blk_alloc ?_ _)); exact BK159.out) hb); have n2_ := Aside0.mk (blk_below (g := gb160) (o := .cells #[.slice none 0 0, .int .i64 0, .int .u64 0, .int .u64 0, .int .u64 0, .int .u64 0, .bool false] 36 (0, 0)) (by (repeat (first | (with_reducible first | refine blk_drewN ?_ _ | refine blk_drew ?_ | refine blk_alloc ?_ _) | refine blk_far ?_ NB160_164.out _)); (with_reducible repeat (first | refine blk_drewN ?_ _ | refine blk_drew ?_ | refine blk_alloc ?_ _)); exact BK160.out) hb); have n3_ := Aside0.mk (blk_below (g := gb164) (o := .cells #[.slice Ao12 y161.length co12, .int .i64 (l1.length : Int), .int .u64 0, .int .u64 0, .int .u64 0, .int .u64 0, .bool false] 36 (0, 0)) (by (with_reducible repeat (first | refine blk_drewN ?_ _ | refine blk_drew ?_ | refine blk_alloc ?_ _)); refine blk_put (cs := #[.slice Ao12 y161.length co12, .int .i64 (l1.length : Int), .int .u64 0, .int .u64 0, .int .u64 0, .int .u64 0, .bool false]) ?_ 6 _ rfl; (with_reducible repeat (first | refine blk_drewN ?_ _ | refine blk_drew ?_ | refine blk_alloc ?_ _)); refine blk_put (cs := #[.slice Ao12 y161.length co12, .int .i64 (l1.length : Int), .int .u64 0, .int .u64 0, .int .u64 0, .int .u64 0, .bool false]) ?_ 5 _ rfl; (with_reducible repeat (first | refine blk_drewN ?_ _ | refine blk_drew ?_ | refine blk_alloc ?_ _)); refine blk_put (cs := #[.slice Ao12 y161.length co12, .int .i64 (l1.length : Int), .int .u64 0, .int .u64 0, .int .u64 0, .int .u64 0, .bool false]) ?_ 4 _ rfl; (with_reducible repeat (first | refine blk_drewN ?_ _ | refine blk_drew ?_ | refine blk_alloc ?_ _)); refine blk_put (cs := #[.slice Ao12 y161.length co12, .int .i64 (l1.length : Int), .int .u64 0, .int .u64 0, .int .u64 0, .int .u64 0, .bool false]) ?_ 3 _ rfl; (with_reducible repeat (first | refine blk_drewN ?_ _ | refine blk_drew ?_ | refine blk_alloc ?_ _)); refine blk_put (cs := #[.slice Ao12 y161.length co12, .int .i64 (l1.length : Int), .int .u64 0, .int .u64 0, .int .u64 0, .int .u64 0, .bool false]) ?_ 2 _ rfl; (with_reducible repeat (first | refine blk_drewN ?_ _ | refine blk_drew ?_ | refine blk_alloc ?_ _)); refine blk_put (cs := #[.slice Ao12 y161.length co12, .int .i64 0, .int .u64 0, .int .u64 0, .int .u64 0, .int .u64 0, .bool false]) ?_ 1 _ rfl; (with_reducible repeat (first | refine blk_drewN ?_ _ | refine blk_drew ?_ | refine blk_alloc ?_ _)); refine blk_put (cs := #[.slice none 0 0, .int .i64 0, .int .u64 0, .int .u64 0, .int .u64 0, .int .u64 0, .bool false]) ?_ 0 _ rfl; (with_reducible repeat (first | refine blk_drewN ?_ _ | refine blk_drew ?_ | refine blk_alloc ?_ _)); exact BK164.out) hb); have n4_ := Aside0.mk (below_step (by repeat (first | (with_reducible first | exact HB.out | apply below_alloc | apply pw_below_drewN | apply below_drew1 | refine below_set ?_ GE159.out | refine below_set ?_ GE160.out | refine below_set ?_ GE164.out) | exact HB.out)) hb); have n5_ := Aside0.mk (hbox); have n6_ := Aside0.mk ((by rw [hg]; exact (below_size (by repeat (first | (with_reducible first | exact HB.out | apply below_alloc | apply pw_below_drewN | apply below_drew1 | refine below_set ?_ GE159.out | refine below_set ?_ GE160.out | refine below_set ?_ GE164.out) | exact HB.out))) : w.heap.size ≤ gb165)); have n7_ := Aside0.mk ((by rw [hg]; exact (below_size (by repeat (first | (with_reducible first | exact HB.out | apply below_alloc | apply pw_below_drewN | apply below_drew1 | refine below_set ?_ GE159.out | refine below_set ?_ GE160.out | refine below_set ?_ GE164.out) | exact HB.out))) : w.heap.size ≤ gb165)); have n8_ := Aside0.mk ((by rw [hg]; exact Nat.ne_of_lt (blk_lt (g := gb159) (o := .cells #[.int .i64 a0_0, .int .i64 a0_1, .int .i64 a0_2, .slice A0_3 l0_3.length c0_3] 24 (0, 0)) (by (repeat (first | (with_reducible first | refine blk_drewN ?_ _ | refine blk_drew ?_ | refine blk_alloc ?_ _) | refine blk_far ?_ NB159_164.out _)); (with_reducible repeat (first | refine blk_drewN ?_ _ | refine blk_drew ?_ | refine blk_alloc ?_ _)); exact BK159.out)) : gb159 ≠ gb165)); have n9_ := Aside0.mk ((by rw [hg]; exact Nat.ne_of_gt (blk_lt (g := gb159) (o := .cells #[.int .i64 a0_0, .int .i64 a0_1, .int .i64 a0_2, .slice A0_3 l0_3.length c0_3] 24 (0, 0)) (by (repeat (first | (with_reducible first | refine blk_drewN ?_ _ | refine blk_drew ?_ | refine blk_alloc ?_ _) | refine blk_far ?_ NB159_164.out _)); (with_reducible repeat (first | refine blk_drewN ?_ _ | refine blk_drew ?_ | refine blk_alloc ?_ _)); exact BK159.out)) : gb165 ≠ gb159)); have n10_ := Aside0.mk ((by rw [hg]; exact Nat.ne_of_lt (blk_lt (g := gb160) (o := .cells #[.slice none 0 0, .int .i64 0, .int .u64 0, .int .u64 0, .int .u64 0, .int .u64 0, .bool false] 36 (0, 0)) (by (repeat (first | (with_reducible first | refine blk_drewN ?_ _ | refine blk_drew ?_ | refine blk_alloc ?_ _) | refine blk_far ?_ NB160_164.out _)); (with_reducible repeat (first | refine blk_drewN ?_ _ | refine blk_drew ?_ | refine blk_alloc ?_ _)); exact BK160.out)) : gb160 ≠ gb165)); have n11_ := Aside0.mk ((by rw [hg]; exact Nat.ne_of_gt (blk_lt (g := gb160) (o := .cells #[.slice none 0 0, .int .i64 0, .int .u64 0, .int .u64 0, .int .u64 0, .int .u64 0, .bool false] 36 (0, 0)) (by (repeat (first | (with_reducible first | refine blk_drewN ?_ _ | refine blk_drew ?_ | refine blk_alloc ?_ _) | refine blk_far ?_ NB160_164.out _)); (with_reducible repeat (first | refine blk_drewN ?_ _ | refine blk_drew ?_ | refine blk_alloc ?_ _)); exact BK160.out)) : gb165 ≠ gb160)); have n12_ := Aside0.mk ((by rw [hg]; exact Nat.ne_of_lt (blk_lt (g := gb164) (o := .cells #[.slice Ao12 y161.length co12, .int .i64 (l1.length : Int), .int .u64 0, .int .u64 0, .int .u64 0, .int .u64 0, .bool false] 36 (0, 0)) (by (with_reducible repeat (first | refine blk_drewN ?_ _ | refine blk_drew ?_ | refine blk_alloc ?_ _)); refine blk_put (cs := #[.slice Ao12 y161.length co12, .int .i64 (l1.length : Int), .int .u64 0, .int .u64 0, .int .u64 0, .int .u64 0, .bool false]) ?_ 6 _ rfl; (with_reducible repeat (first | refine blk_drewN ?_ _ | refine blk_drew ?_ | refine blk_alloc ?_ _)); refine blk_put (cs := #[.slice Ao12 y161.length co12, .int .i64 (l1.length : Int), .int .u64 0, .int .u64 0, .int .u64 0, .int .u64 0, .bool false]) ?_ 5 _ rfl; (with_reducible repeat (first | refine blk_drewN ?_ _ | refine blk_drew ?_ | refine blk_alloc ?_ _)); refine blk_put (cs := #[.slice Ao12 y161.length co12, .int .i64 (l1.length : Int), .int .u64 0, .int .u64 0, .int .u64 0, .int .u64 0, .bool false]) ?_ 4 _ rfl; (with_reducible repeat (first | refine blk_drewN ?_ _ | refine blk_drew ?_ | refine blk_alloc ?_ _)); refine blk_put (cs := #[.slice Ao12 y161.length co12, .int .i64 (l1.length : Int), .int .u64 0, .int .u64 0, .int .u64 0, .int .u64 0, .bool false]) ?_ 3 _ rfl; (with_reducible repeat (first | refine blk_drewN ?_ _ | refine blk_drew ?_ | refine blk_alloc ?_ _)); refine blk_put (cs := #[.slice Ao12 y161.length co12, .int .i64 (l1.length : Int), .int .u64 0, .int .u64 0, .int .u64 0, .int .u64 0, .bool false]) ?_ 2 _ rfl; (with_reducible repeat (first | refine blk_drewN ?_ _ | refine blk_drew ?_ | refine blk_alloc ?_ _)); refine blk_put (cs := #[.slice Ao12 y161.length co12, .int .i64 0, .int .u64 0, .int .u64 0, .int .u64 0, .int .u64 0, .bool false]) ?_ 1 _ rfl; (with_reducible repeat (first | refine blk_drewN ?_ _ | refine blk_drew ?_ | refine blk_alloc ?_ _)); refine blk_put (cs := #[.slice none 0 0, .int .i64 0, .int .u64 0, .int .u64 0, .int .u64 0, .int .u64 0, .bool false]) ?_ 0 _ rfl; (with_reducible repeat (first | refine blk_drewN ?_ _ | refine blk_drew ?_ | refine blk_alloc ?_ _)); exact BK164.out)) : gb164 ≠ gb165)); have n13_ := Aside0.mk ((by rw [hg]; exact Nat.ne_of_gt (blk_lt (g := gb164) (o := .cells #[.slice Ao12 y161.length co12, .int .i64 (l1.length : Int), .int .u64 0, .int .u64 0, .int .u64 0, .int .u64 0, .bool false] 36 (0, 0)) (by (with_reducible repeat (first | refine blk_drewN ?_ _ | refine blk_drew ?_ | refine blk_alloc ?_ _)); refine blk_put (cs := #[.slice Ao12 y161.length co12, .int .i64 (l1.length : Int), .int .u64 0, .int .u64 0, .int .u64 0, .int .u64 0, .bool false]) ?_ 6 _ rfl; (with_reducible repeat (first | refine blk_drewN ?_ _ | refine blk_drew ?_ | refine blk_alloc ?_ _)); refine blk_put (cs := #[.slice Ao12 y161.length co12, .int .i64 (l1.length : Int), .int .u64 0, .int .u64 0, .int .u64 0, .int .u64 0, .bool false]) ?_ 5 _ rfl; (with_reducible repeat (first | refine blk_drewN ?_ _ | refine blk_drew ?_ | refine blk_alloc ?_ _)); refine blk_put (cs := #[.slice Ao12 y161.length co12, .int .i64 (l1.length : Int), .int .u64 0, .int .u64 0, .int .u64 0, .int .u64 0, .bool false]) ?_ 4 _ rfl; (with_reducible repeat (first | refine blk_drewN ?_ _ | refine blk_drew ?_ | refine blk_alloc ?_ _)); refine blk_put (cs := #[.slice Ao12 y161.length co12, .int .i64 (l1.length : Int), .int .u64 0, .int .u64 0, .int .u64 0, .int .u64 0, .bool false]) ?_ 3 _ rfl; (with_reducible repeat (first | refine blk_drewN ?_ _ | refine blk_drew ?_ | refine blk_alloc ?_ _)); refine blk_put (cs := #[.slice Ao12 y161.length co12, .int .i64 (l1.length : Int), .int .u64 0, .int .u64 0, .int .u64 0, .int .u64 0, .bool false]) ?_ 2 _ rfl; (with_reducible repeat (first | refine blk_drewN ?_ _ | refine blk_drew ?_ | refine blk_alloc ?_ _)); refine blk_put (cs := #[.slice Ao12 y161.length co12, .int .i64 0, .int .u64 0, .int .u64 0, .int .u64 0, .int .u64 0, .bool false]) ?_ 1 _ rfl; (with_reducible repeat (first | refine blk_drewN ?_ _ | refine blk_drew ?_ | refine blk_alloc ?_ _)); refine blk_put (cs := #[.slice none 0 0, .int .i64 0, .int .u64 0, .int .u64 0, .int .u64 0, .int .u64 0, .bool false]) ?_ 0 _ rfl; (with_reducible repeat (first | refine blk_drewN ?_ _ | refine blk_drew ?_ | refine blk_alloc ?_ _)); exact BK164.out)) : gb165 ≠ gb164)); clear HO163; clear BK159; clear BK160; clear BK164; clear HB; have HO163 := n0_; have BK159 := n1_; have BK160 := n2_; have BK164 := n3_; have HB := n4_; have BK165 := n5_; have GW165 := n6_; have GE165 := n7_; have NB159_165 := n8_; have NB165_159 := n9_; have NB160_165 := n10_; have NB165_160 := n11_; have NB164_165 := n12_; have NB165_164 := n13_; clear n0_ n1_ n2_ n3_ n4_ n5_ n6_ n7_ n8_ n9_ n10_ n11_ n12_ n13_; clear hb hbox hg) | ((with_reducible refine gate_dst (N := 7) rfl ?_); refine box_event ?hg (N := 7) ?hd (cs := #[.int .u32 0, .int .u32 0, .int .u32 0, .int .u32 0, .int .u32 0, .int .u32 0, .int .u32 0, .int .u32 0]) (t := 41) ?hr ?_; (case hd => rfl); (case hg => rfl); (case hr => first | (go_simp; done) | (go_simp; rfl)); intro gb166 hg w18 hbox hb; have n0_ := Aside0.mk (Kd.R_below (by (with_reducible repeat (first | apply Kd.R_alloc | apply Kd.R_drewN | apply Kd.R_drew)); exact HO163.out) hb); have n1_ := offertoryref09_Stats.keepB BK159 hb; have n2_ := offertoryref09_Stats.keepB BK160 hb; have n3_ := offertoryref09_Stats.keepB BK164 hb; have n4_ := offertoryref09_Stats.keepB BK165 hb; have n5_ := Aside0.mk (below_step (by repeat (first | (with_reducible first | exact HB.out | apply below_alloc | apply pw_below_drewN | apply below_drew1 | refine below_set ?_ GE159.out | refine below_set ?_ GE160.out | refine below_set ?_ GE164.out | refine below_set ?_ GE165.out) | exact HB.out)) hb); have n6_ := Aside0.mk (hbox); have n7_ := Aside0.mk ((by rw [hg]; exact (below_size (by repeat (first | (with_reducible first | exact HB.out | apply below_alloc | apply pw_below_drewN | apply below_drew1 | refine below_set ?_ GE159.out | refine below_set ?_ GE160.out | refine below_set ?_ GE164.out | refine below_set ?_ GE165.out) | exact HB.out))) : w.heap.size ≤ gb166)); have n8_ := Aside0.mk ((by rw [hg]; exact (below_size (by repeat (first | (with_reducible first | exact HB.out | apply below_alloc | apply pw_below_drewN | apply below_drew1 | refine below_set ?_ GE159.out | refine below_set ?_ GE160.out | refine below_set ?_ GE164.out | refine below_set ?_ GE165.out) | exact HB.out))) : w.heap.size ≤ gb166)); have n9_ := offertoryref09_Stats.neL BK159 hg; have n10_ := offertoryref09_Stats.neG BK159 hg; have n11_ := offertoryref09_Stats.neL BK160 hg; have n12_ := offertoryref09_Stats.neG BK160 hg; have n13_ := offertoryref09_Stats.neL BK164 hg; have n14_ := offertoryref09_Stats.neG BK164 hg; have n15_ := offertoryref09_Stats.neL BK165 hg; have n16_ := offertoryref09_Stats.neG BK165 hg; clear HO163; clear BK159; clear BK160; clear BK164; clear BK165; clear HB; have HO163 := n0_; have BK159 := n1_; have BK160 := n2_; have BK164 := n3_; have BK165 := n4_; have HB := n5_; have BK166 := n6_; have GW166 := n7_; have GE166 := n8_; have NB159_166 := n9_; have NB166_159 := n10_; have NB160_166 := n11_; have NB166_160 := n12_; have NB164_166 := n13_; have NB166_164 := n14_; have NB165_166 := n15_; have NB166_165 := n16_; clear n0_ n1_ n2_ n3_ n4_ n5_ n6_ n7_ n8_ n9_ n10_ n11_ n12_ n13_ n14_ n15_ n16_; clear hb hbox hg; have hnb19 := NB165_159.out; have hnc19 := NB159_165.out; have hnb20 := NB165_160.out; have hnc20 := NB160_165.out; have hnb21 := NB165_164.out; have hnc21 := NB164_165.out; have hnb22 := NB165_166.out; have hnc22 := NB166_165.out; have hcz23_0 : w18.cell? ⟨gb165, 0, none⟩ = some (.int .u32 0) := (blk_cell BK165.out 0).trans rfl; have hcz23_1 : w18.cell? ⟨gb165, 1, none⟩ = some (.int .u32 0) := (blk_cell BK165.out 1).trans rfl; have hcz23_2 : w18.cell? ⟨gb165, 2, none⟩ = some (.int .u32 0) := (blk_cell BK165.out 2).trans rfl; have hcz23_3 : w18.cell? ⟨gb165, 3, none⟩ = some (.int .u32 0) := (blk_cell BK165.out 3).trans rfl; have hcz23_4 : w18.cell? ⟨gb165, 4, none⟩ = some (.int .u32 0) := (blk_cell BK165.out 4).trans rfl; have hcz23_5 : w18.cell? ⟨gb165, 5, none⟩ = some (.int .u32 0) := (blk_cell BK165.out 5).trans rfl; have hcz23_6 : w18.cell? ⟨gb165, 6, none⟩ = some (.int .u32 0) := (blk_cell BK165.out 6).trans rfl; have hcz23_7 : w18.cell? ⟨gb165, 7, none⟩ = some (.int .u32 0) := (blk_cell BK165.out 7).trans rfl; have hfz23_0 := blk_frozen BK165.out 0; have hfz23_1 := blk_frozen BK165.out 1; have hfz23_2 := blk_frozen BK165.out 2; have hfz23_3 := blk_frozen BK165.out 3; have hfz23_4 := blk_frozen BK165.out 4; have hfz23_5 := blk_frozen BK165.out 5; have hfz23_6 := blk_frozen BK165.out 6; have hfz23_7 := blk_frozen BK165.out 7; have hnb24 := NB166_159.out; have hnc24 := NB159_166.out; have hnb25 := NB166_160.out; have hnc25 := NB160_166.out; have hnb26 := NB166_164.out; have hnc26 := NB164_166.out; have hcz27_0 : w18.cell? ⟨gb166, 0, none⟩ = some (.int .u32 0) := (blk_cell BK166.out 0).trans rfl; have hcz27_1 : w18.cell? ⟨gb166, 1, none⟩ = some (.int .u32 0) := (blk_cell BK166.out 1).trans rfl; have hcz27_2 : w18.cell? ⟨gb166, 2, none⟩ = some (.int .u32 0) := (blk_cell BK166.out 2).trans rfl; have hcz27_3 : w18.cell? ⟨gb166, 3, none⟩ = some (.int .u32 0) := (blk_cell BK166.out 3).trans rfl; have hcz27_4 : w18.cell? ⟨gb166, 4, none⟩ = some (.int .u32 0) := (blk_cell BK166.out 4).trans rfl; have hcz27_5 : w18.cell? ⟨gb166, 5, none⟩ = some (.int .u32 0) := (blk_cell BK166.out 5).trans rfl; have hcz27_6 : w18.cell? ⟨gb166, 6, none⟩ = some (.int .u32 0) := (blk_cell BK166.out 6).trans rfl; have hcz27_7 : w18.cell? ⟨gb166, 7, none⟩ = some (.int .u32 0) := (blk_cell BK166.out 7).trans rfl; have hfz27_0 := blk_frozen BK166.out 0; have hfz27_1 := blk_frozen BK166.out 1; have hfz27_2 := blk_frozen BK166.out 2; have hfz27_3 := blk_frozen BK166.out 3; have hfz27_4 := blk_frozen BK166.out 4; have hfz27_5 := blk_frozen BK166.out 5; have hfz27_6 := blk_frozen BK166.out 6; have hfz27_7 := blk_frozen BK166.out 7))
   go_loopg [8] k (fun kq v8 w' => ∃ (x8_1 : Int) (x165000_1 : List Int) (x166000_1 : Int) (x166001_1 : Int) (x166002_1 : Int) (x166003_1 : Int) (x166004_1 : Int) (x166005_1 : Int) (x166006_1 : Int) (x166007_1 : Int) (x167000_1 : Int) (x167001_1 : Int) (x167002_1 : Int) (x167003_1 : Int) (x167004_1 : Int) (x167005_1 : Int) (x167006_1 : Int) (x167007_1 : Int) (u165000 : Value), v8 = .int .i64 x8_1 ∧ Aside0 (offertoryref09_Stats.l0 kq l1 x8_1 a0_0 a0_1 a0_2 l0_3 x165000_1 (l1.length : Int) 0 0 0 0 false x166000_1 x166001_1 x166002_1 x166003_1 x166004_1 x166005_1 x166006_1 x166007_1 x167000_1 x167001_1 x167002_1 x167003_1 x167004_1 x167005_1 x167006_1 x167007_1 = some (r1, r2, r3, r4, r5, r6, r7)) ∧ Aside0 (kq ≤ k) ∧ Aside0 (Kd.R (Kd.int .i64) 3 w' w.heap.size (fun _ => True) u165000 x165000_1) ∧ Aside0 (w'.heap[gb159]? = some (.cells #[.int .i64 a0_0, .int .i64 a0_1, .int .i64 a0_2, (.slice A0_3 l0_3.length c0_3)] 24 (0, 0))) ∧ Aside0 (w'.heap[gb160]? = some (.cells #[(.slice none 0 0), .int .i64 0, .int .u64 0, .int .u64 0, .int .u64 0, .int .u64 0, .bool false] 36 (0, 0))) ∧ Aside0 (w'.heap[gb164]? = some (.cells #[u165000, .int .i64 (l1.length : Int), .int .u64 0, .int .u64 0, .int .u64 0, .int .u64 0, .bool false] 36 (0, 0))) ∧ Aside0 (w'.heap[gb165]? = some (.cells #[.int .u32 x166000_1, .int .u32 x166001_1, .int .u32 x166002_1, .int .u32 x166003_1, .int .u32 x166004_1, .int .u32 x166005_1, .int .u32 x166006_1, .int .u32 x166007_1] 41 (0, 0))) ∧ Aside0 (w'.heap[gb166]? = some (.cells #[.int .u32 x167000_1, .int .u32 x167001_1, .int .u32 x167002_1, .int .u32 x167003_1, .int .u32 x167004_1, .int .u32 x167005_1, .int .u32 x167006_1, .int .u32 x167007_1] 41 (0, 0))) ∧ Aside0 (Below w.heap.size w w'))
   case atStart => exact ⟨(0), (y161), (0), (0), (0), (0), (0), (0), (0), (0), (0), (0), (0), (0), (0), (0), (0), (0), (.slice Ao12 y161.length co12), (by first | rfl | (simp; done) | (simp [*]; done)), H', ⟨Nat.le_refl _⟩, ⟨by (with_reducible repeat (first | apply Kd.R_alloc | apply Kd.R_drewN | apply Kd.R_drew)); exact Kd.R_mono (Kd.R_far (p := ⟨gb166, 7, none⟩) (Kd.R_far (p := ⟨gb166, 6, none⟩) (Kd.R_far (p := ⟨gb166, 5, none⟩) (Kd.R_far (p := ⟨gb166, 4, none⟩) (Kd.R_far (p := ⟨gb166, 3, none⟩) (Kd.R_far (p := ⟨gb166, 2, none⟩) (Kd.R_far (p := ⟨gb166, 1, none⟩) (Kd.R_far (p := ⟨gb166, 0, none⟩) (Kd.R_far (p := ⟨gb165, 7, none⟩) (Kd.R_far (p := ⟨gb165, 6, none⟩) (Kd.R_far (p := ⟨gb165, 5, none⟩) (Kd.R_far (p := ⟨gb165, 4, none⟩) (Kd.R_far (p := ⟨gb165, 3, none⟩) (Kd.R_far (p := ⟨gb165, 2, none⟩) (Kd.R_far (p := ⟨gb165, 1, none⟩) (Kd.R_far (p := ⟨gb165, 0, none⟩) (Kd.R_types (Kd.R_types HO163.out BK165.out (by decide)) BK166.out (by decide)) (fun _ hk => hk.1.2) (.int .u32 0)) (fun _ hk => hk.1.2) (.int .u32 0)) (fun _ hk => hk.1.2) (.int .u32 0)) (fun _ hk => hk.1.2) (.int .u32 0)) (fun _ hk => hk.1.2) (.int .u32 0)) (fun _ hk => hk.1.2) (.int .u32 0)) (fun _ hk => hk.1.2) (.int .u32 0)) (fun _ hk => hk.1.2) (.int .u32 0)) (fun _ hk => hk.2) (.int .u32 0)) (fun _ hk => hk.2) (.int .u32 0)) (fun _ hk => hk.2) (.int .u32 0)) (fun _ hk => hk.2) (.int .u32 0)) (fun _ hk => hk.2) (.int .u32 0)) (fun _ hk => hk.2) (.int .u32 0)) (fun _ hk => hk.2) (.int .u32 0)) (fun _ hk => hk.2) (.int .u32 0)) (fun _ hk => trivial)⟩, ⟨by (repeat (first | (with_reducible first | refine blk_drewN ?_ _ | refine blk_drew ?_ | refine blk_alloc ?_ _) | refine blk_far ?_ NB159_166.out _)); (repeat (first | (with_reducible first | refine blk_drewN ?_ _ | refine blk_drew ?_ | refine blk_alloc ?_ _) | refine blk_far ?_ NB159_165.out _)); (with_reducible repeat (first | refine blk_drewN ?_ _ | refine blk_drew ?_ | refine blk_alloc ?_ _)); exact BK159.out⟩, ⟨by (repeat (first | (with_reducible first | refine blk_drewN ?_ _ | refine blk_drew ?_ | refine blk_alloc ?_ _) | refine blk_far ?_ NB160_166.out _)); (repeat (first | (with_reducible first | refine blk_drewN ?_ _ | refine blk_drew ?_ | refine blk_alloc ?_ _) | refine blk_far ?_ NB160_165.out _)); (with_reducible repeat (first | refine blk_drewN ?_ _ | refine blk_drew ?_ | refine blk_alloc ?_ _)); exact BK160.out⟩, ⟨by (repeat (first | (with_reducible first | refine blk_drewN ?_ _ | refine blk_drew ?_ | refine blk_alloc ?_ _) | refine blk_far ?_ NB164_166.out _)); (repeat (first | (with_reducible first | refine blk_drewN ?_ _ | refine blk_drew ?_ | refine blk_alloc ?_ _) | refine blk_far ?_ NB164_165.out _)); (with_reducible repeat (first | refine blk_drewN ?_ _ | refine blk_drew ?_ | refine blk_alloc ?_ _)); exact BK164.out⟩, ⟨by (repeat (first | (with_reducible first | refine blk_drewN ?_ _ | refine blk_drew ?_ | refine blk_alloc ?_ _) | refine blk_far ?_ NB165_166.out _)); (with_reducible repeat (first | refine blk_drewN ?_ _ | refine blk_drew ?_ | refine blk_alloc ?_ _)); refine blk_put (cs := #[.int .u32 0, .int .u32 0, .int .u32 0, .int .u32 0, .int .u32 0, .int .u32 0, .int .u32 0, .int .u32 0]) ?_ 7 _ rfl; (with_reducible repeat (first | refine blk_drewN ?_ _ | refine blk_drew ?_ | refine blk_alloc ?_ _)); refine blk_put (cs := #[.int .u32 0, .int .u32 0, .int .u32 0, .int .u32 0, .int .u32 0, .int .u32 0, .int .u32 0, .int .u32 0]) ?_ 6 _ rfl; (with_reducible repeat (first | refine blk_drewN ?_ _ | refine blk_drew ?_ | refine blk_alloc ?_ _)); refine blk_put (cs := #[.int .u32 0, .int .u32 0, .int .u32 0, .int .u32 0, .int .u32 0, .int .u32 0, .int .u32 0, .int .u32 0]) ?_ 5 _ rfl; (with_reducible repeat (first | refine blk_drewN ?_ _ | refine blk_drew ?_ | refine blk_alloc ?_ _)); refine blk_put (cs := #[.int .u32 0, .int .u32 0, .int .u32 0, .int .u32 0, .int .u32 0, .int .u32 0, .int .u32 0, .int .u32 0]) ?_ 4 _ rfl; (with_reducible repeat (first | refine blk_drewN ?_ _ | refine blk_drew ?_ | refine blk_alloc ?_ _)); refine blk_put (cs := #[.int .u32 0, .int .u32 0, .int .u32 0, .int .u32 0, .int .u32 0, .int .u32 0, .int .u32 0, .int .u32 0]) ?_ 3 _ rfl; (with_reducible repeat (first | refine blk_drewN ?_ _ | refine blk_drew ?_ | refine blk_alloc ?_ _)); refine blk_put (cs := #[.int .u32 0, .int .u32 0, .int .u32 0, .int .u32 0, .int .u32 0, .int .u32 0, .int .u32 0, .int .u32 0]) ?_ 2 _ rfl; (with_reducible repeat (first | refine blk_drewN ?_ _ | refine blk_drew ?_ | refine blk_alloc ?_ _)); refine blk_put (cs := #[.int .u32 0, .int .u32 0, .int .u32 0, .int .u32 0, .int .u32 0, .int .u32 0, .int .u32 0, .int .u32 0]) ?_ 1 _ rfl; (with_reducible repeat (first | refine blk_drewN ?_ _ | refine blk_drew ?_ | refine blk_alloc ?_ _)); refine blk_put (cs := #[.int .u32 0, .int .u32 0, .int .u32 0, .int .u32 0, .int .u32 0, .int .u32 0, .int .u32 0, .int .u32 0]) ?_ 0 _ rfl; (with_reducible repeat (first | refine blk_drewN ?_ _ | refine blk_drew ?_ | refine blk_alloc ?_ _)); exact BK165.out⟩, ⟨by (with_reducible repeat (first | refine blk_drewN ?_ _ | refine blk_drew ?_ | refine blk_alloc ?_ _)); refine blk_put (cs := #[.int .u32 0, .int .u32 0, .int .u32 0, .int .u32 0, .int .u32 0, .int .u32 0, .int .u32 0, .int .u32 0]) ?_ 7 _ rfl; (with_reducible repeat (first | refine blk_drewN ?_ _ | refine blk_drew ?_ | refine blk_alloc ?_ _)); refine blk_put (cs := #[.int .u32 0, .int .u32 0, .int .u32 0, .int .u32 0, .int .u32 0, .int .u32 0, .int .u32 0, .int .u32 0]) ?_ 6 _ rfl; (with_reducible repeat (first | refine blk_drewN ?_ _ | refine blk_drew ?_ | refine blk_alloc ?_ _)); refine blk_put (cs := #[.int .u32 0, .int .u32 0, .int .u32 0, .int .u32 0, .int .u32 0, .int .u32 0, .int .u32 0, .int .u32 0]) ?_ 5 _ rfl; (with_reducible repeat (first | refine blk_drewN ?_ _ | refine blk_drew ?_ | refine blk_alloc ?_ _)); refine blk_put (cs := #[.int .u32 0, .int .u32 0, .int .u32 0, .int .u32 0, .int .u32 0, .int .u32 0, .int .u32 0, .int .u32 0]) ?_ 4 _ rfl; (with_reducible repeat (first | refine blk_drewN ?_ _ | refine blk_drew ?_ | refine blk_alloc ?_ _)); refine blk_put (cs := #[.int .u32 0, .int .u32 0, .int .u32 0, .int .u32 0, .int .u32 0, .int .u32 0, .int .u32 0, .int .u32 0]) ?_ 3 _ rfl; (with_reducible repeat (first | refine blk_drewN ?_ _ | refine blk_drew ?_ | refine blk_alloc ?_ _)); refine blk_put (cs := #[.int .u32 0, .int .u32 0, .int .u32 0, .int .u32 0, .int .u32 0, .int .u32 0, .int .u32 0, .int .u32 0]) ?_ 2 _ rfl; (with_reducible repeat (first | refine blk_drewN ?_ _ | refine blk_drew ?_ | refine blk_alloc ?_ _)); refine blk_put (cs := #[.int .u32 0, .int .u32 0, .int .u32 0, .int .u32 0, .int .u32 0, .int .u32 0, .int .u32 0, .int .u32 0]) ?_ 1 _ rfl; (with_reducible repeat (first | refine blk_drewN ?_ _ | refine blk_drew ?_ | refine blk_alloc ?_ _)); refine blk_put (cs := #[.int .u32 0, .int .u32 0, .int .u32 0, .int .u32 0, .int .u32 0, .int .u32 0, .int .u32 0, .int .u32 0]) ?_ 0 _ rfl; (repeat (first | (with_reducible first | refine blk_drewN ?_ _ | refine blk_drew ?_ | refine blk_alloc ?_ _) | refine blk_far ?_ NB166_165.out _)); (with_reducible repeat (first | refine blk_drewN ?_ _ | refine blk_drew ?_ | refine blk_alloc ?_ _)); exact BK166.out⟩, ⟨by repeat (first | (with_reducible first | exact HB.out | apply below_alloc | apply pw_below_drewN | apply below_drew1 | refine below_set ?_ GE159.out | refine below_set ?_ GE160.out | refine below_set ?_ GE164.out | refine below_set ?_ GE165.out | refine below_set ?_ GE166.out) | exact HB.out)⟩⟩
   case round =>
    clear H'
    try clear c1
    try clear c2
    try clear p2
    try clear c4
    try clear c4b0
    try clear c4b1
    try clear c5
    try clear c5b0
    try clear c5b1
    try clear p6
    try clear c8
    try clear c14
    try clear c15
    try clear c18
    try clear c19
    try clear c20
    try clear c21
    try clear c22
    try clear c24
    try clear c25
    try clear c26
    try clear hcz16_0
    try clear hcz16_1
    try clear hcz16_2
    try clear hcz16_3
    try clear hcz16_4
    try clear hcz16_5
    try clear hcz16_6
    try clear hcz23_0
    try clear hcz23_1
    try clear hcz23_2
    try clear hcz23_3
    try clear hcz23_4
    try clear hcz23_5
    try clear hcz23_6
    try clear hcz23_7
    try clear hcz27_0
    try clear hcz27_1
    try clear hcz27_2
    try clear hcz27_3
    try clear hcz27_4
    try clear hcz27_5
    try clear hcz27_6
    try clear hcz27_7
    try clear hcz9_0
    try clear hcz9_1
    try clear hcz9_2
    try clear hcz9_3
    try clear hfz16_0
    try clear hfz16_1
    try clear hfz16_2
    try clear hfz16_3
    try clear hfz16_4
    try clear hfz16_5
    try clear hfz16_6
    try clear hfz23_0
    try clear hfz23_1
    try clear hfz23_2
    try clear hfz23_3
    try clear hfz23_4
    try clear hfz23_5
    try clear hfz23_6
    try clear hfz23_7
    try clear hfz27_0
    try clear hfz27_1
    try clear hfz27_2
    try clear hfz27_3
    try clear hfz27_4
    try clear hfz27_5
    try clear hfz27_6
    try clear hfz27_7
    try clear hfz9_0
    try clear hfz9_1
    try clear hfz9_2
    try clear hfz9_3
    obtain ⟨x8_1, x165000_1, x166000_1, x166001_1, x166002_1, x166003_1, x166004_1, x166005_1, x166006_1, x166007_1, x167000_1, x167001_1, x167002_1, x167003_1, x167004_1, x167005_1, x167006_1, x167007_1, u165000, rfl, HA, HK1, HO_165000, BK159, BK160, BK164, BK165, BK166, HB⟩ := hrel
    cases gk with
    | zero => exact absurd HA.out (by simp [offertoryref09_Stats.l0])
    | succ k1 =>
     have H := HA.out
     clear HA
     simp only [offertoryref09_Stats.l0] at H
     by_cases c28 : x8_1 < (l1.length : Int)
     ·
      rw [if_pos c28] at H
      have c28b0 : decide (x8_1 < (l1.length : Int)) = true := decide_eq_true c28
      clear c28
      by_cases c29 : 0 ≤ x8_1
      ·
       rw [if_pos c29] at H
       have c29b0 : decide (0 ≤ x8_1) = true := decide_eq_true c29
       clear c29
       replace H := Option.bind_eq_some_iff.mp H
       obtain ⟨t181, A300, H⟩ := H
       replace H : (if 0 ≤ t181 then (if t181 < (x165000_1.length : Int) then ((offertoryref09_Clamp.f a0_0 a0_1 a0_2 l0_3 (rd l1 x8_1)).bind fun t185 => ((offertoryref09_Int.f t185).bind fun bt186 => ((offertoryref09_Add.f x166000_1 x166001_1 x166002_1 x166003_1 x166004_1 x166005_1 x166006_1 x166007_1 bt186.1 bt186.2.1 bt186.2.2.1 bt186.2.2.2.1 bt186.2.2.2.2.1 bt186.2.2.2.2.2.1 bt186.2.2.2.2.2.2.1 bt186.2.2.2.2.2.2.2).bind fun bt195 => ((offertoryref09_Mul.f bt186.1 bt186.2.1 bt186.2.2.1 bt186.2.2.2.1 bt186.2.2.2.2.1 bt186.2.2.2.2.2.1 bt186.2.2.2.2.2.2.1 bt186.2.2.2.2.2.2.2 bt186.1 bt186.2.1 bt186.2.2.1 bt186.2.2.2.1 bt186.2.2.2.2.1 bt186.2.2.2.2.2.1 bt186.2.2.2.2.2.2.1 bt186.2.2.2.2.2.2.2).bind fun bt203 => ((offertoryref09_Add.f x167000_1 x167001_1 x167002_1 x167003_1 x167004_1 x167005_1 x167006_1 x167007_1 bt203.1 bt203.2.1 bt203.2.2.1 bt203.2.2.2.1 bt203.2.2.2.2.1 bt203.2.2.2.2.2.1 bt203.2.2.2.2.2.2.1 bt203.2.2.2.2.2.2.2).bind fun bt211 => (offertoryref09_Stats.l0 k1 l1 (wrap64 (x8_1 + 1)) a0_0 a0_1 a0_2 l0_3 (x165000_1.set (t181 : Int).toNat (wrap64 ((rd x165000_1 t181) + 1))) (l1.length : Int) 0 0 0 0 false bt195.1 bt195.2.1 bt195.2.2.1 bt195.2.2.2.1 bt195.2.2.2.2.1 bt195.2.2.2.2.2.1 bt195.2.2.2.2.2.2.1 bt195.2.2.2.2.2.2.2 bt211.1 bt211.2.1 bt211.2.2.1 bt211.2.2.2.1 bt211.2.2.2.2.1 bt211.2.2.2.2.2.1 bt211.2.2.2.2.2.2.1 bt211.2.2.2.2.2.2.2)))))) else (none)) else (none)) = some (r1, r2, r3, r4, r5, r6, r7) := H
       have A30 := Aside0.mk A300
       clear A300
       by_cases c31 : 0 ≤ t181
       ·
        rw [if_pos c31] at H
        have c31b0 : decide (0 ≤ t181) = true := decide_eq_true c31
        clear c31
        by_cases c32 : t181 < (x165000_1.length : Int)
        ·
         rw [if_pos c32] at H
         have c32b0 : decide (t181 < (x165000_1.length : Int)) = true := decide_eq_true c32
         clear c32
         obtain ⟨y183, hy183⟩ : ∃ y_ : List Int, y_ = (x165000_1.set (t181 : Int).toNat (wrap64 ((rd x165000_1 t181) + 1))) := ⟨_, rfl⟩
         replace H : ((offertoryref09_Clamp.f a0_0 a0_1 a0_2 l0_3 (rd l1 x8_1)).bind fun t185 => ((offertoryref09_Int.f t185).bind fun bt186 => ((offertoryref09_Add.f x166000_1 x166001_1 x166002_1 x166003_1 x166004_1 x166005_1 x166006_1 x166007_1 bt186.1 bt186.2.1 bt186.2.2.1 bt186.2.2.2.1 bt186.2.2.2.2.1 bt186.2.2.2.2.2.1 bt186.2.2.2.2.2.2.1 bt186.2.2.2.2.2.2.2).bind fun bt195 => ((offertoryref09_Mul.f bt186.1 bt186.2.1 bt186.2.2.1 bt186.2.2.2.1 bt186.2.2.2.2.1 bt186.2.2.2.2.2.1 bt186.2.2.2.2.2.2.1 bt186.2.2.2.2.2.2.2 bt186.1 bt186.2.1 bt186.2.2.1 bt186.2.2.2.1 bt186.2.2.2.2.1 bt186.2.2.2.2.2.1 bt186.2.2.2.2.2.2.1 bt186.2.2.2.2.2.2.2).bind fun bt203 => ((offertoryref09_Add.f x167000_1 x167001_1 x167002_1 x167003_1 x167004_1 x167005_1 x167006_1 x167007_1 bt203.1 bt203.2.1 bt203.2.2.1 bt203.2.2.2.1 bt203.2.2.2.2.1 bt203.2.2.2.2.2.1 bt203.2.2.2.2.2.2.1 bt203.2.2.2.2.2.2.2).bind fun bt211 => (offertoryref09_Stats.l0 k1 l1 (wrap64 (x8_1 + 1)) a0_0 a0_1 a0_2 l0_3 y183 (l1.length : Int) 0 0 0 0 false bt195.1 bt195.2.1 bt195.2.2.1 bt195.2.2.2.1 bt195.2.2.2.2.1 bt195.2.2.2.2.2.1 bt195.2.2.2.2.2.2.1 bt195.2.2.2.2.2.2.2 bt211.1 bt211.2.1 bt211.2.2.1 bt211.2.2.2.1 bt211.2.2.2.2.1 bt211.2.2.2.2.2.1 bt211.2.2.2.2.2.2.1 bt211.2.2.2.2.2.2.2)))))) = some (r1, r2, r3, r4, r5, r6, r7) := by first | (rw [hy183]; with_reducible exact H) | (have H2_ := (Option.bind_some _ _).symm.trans H; rw [hy183]; with_reducible exact H2_) | (have H2_ := (Option.bind_some _ _).symm.trans H; with_reducible exact H2_) | with_reducible exact H | (rw [hy183]; exact H) | exact H
         have Ny183 := Aside0.mk hy183
         clear hy183
         replace H := Option.bind_eq_some_iff.mp H
         obtain ⟨t185, A340, H⟩ := H
         replace H : ((offertoryref09_Int.f t185).bind fun bt186 => ((offertoryref09_Add.f x166000_1 x166001_1 x166002_1 x166003_1 x166004_1 x166005_1 x166006_1 x166007_1 bt186.1 bt186.2.1 bt186.2.2.1 bt186.2.2.2.1 bt186.2.2.2.2.1 bt186.2.2.2.2.2.1 bt186.2.2.2.2.2.2.1 bt186.2.2.2.2.2.2.2).bind fun bt195 => ((offertoryref09_Mul.f bt186.1 bt186.2.1 bt186.2.2.1 bt186.2.2.2.1 bt186.2.2.2.2.1 bt186.2.2.2.2.2.1 bt186.2.2.2.2.2.2.1 bt186.2.2.2.2.2.2.2 bt186.1 bt186.2.1 bt186.2.2.1 bt186.2.2.2.1 bt186.2.2.2.2.1 bt186.2.2.2.2.2.1 bt186.2.2.2.2.2.2.1 bt186.2.2.2.2.2.2.2).bind fun bt203 => ((offertoryref09_Add.f x167000_1 x167001_1 x167002_1 x167003_1 x167004_1 x167005_1 x167006_1 x167007_1 bt203.1 bt203.2.1 bt203.2.2.1 bt203.2.2.2.1 bt203.2.2.2.2.1 bt203.2.2.2.2.2.1 bt203.2.2.2.2.2.2.1 bt203.2.2.2.2.2.2.2).bind fun bt211 => (offertoryref09_Stats.l0 k1 l1 (wrap64 (x8_1 + 1)) a0_0 a0_1 a0_2 l0_3 y183 (l1.length : Int) 0 0 0 0 false bt195.1 bt195.2.1 bt195.2.2.1 bt195.2.2.2.1 bt195.2.2.2.2.1 bt195.2.2.2.2.2.1 bt195.2.2.2.2.2.2.1 bt195.2.2.2.2.2.2.2 bt211.1 bt211.2.1 bt211.2.2.1 bt211.2.2.2.1 bt211.2.2.2.2.1 bt211.2.2.2.2.2.1 bt211.2.2.2.2.2.2.1 bt211.2.2.2.2.2.2.2))))) = some (r1, r2, r3, r4, r5, r6, r7) := H
         have A34 := Aside0.mk A340
         clear A340
         replace H := Option.bind_eq_some_iff.mp H
         obtain ⟨⟨t186, t187, t188, t189, t190, t191, t192, t193⟩, A350, H⟩ := H
         replace H : ((offertoryref09_Add.f x166000_1 x166001_1 x166002_1 x166003_1 x166004_1 x166005_1 x166006_1 x166007_1 t186 t187 t188 t189 t190 t191 t192 t193).bind fun bt195 => ((offertoryref09_Mul.f t186 t187 t188 t189 t190 t191 t192 t193 t186 t187 t188 t189 t190 t191 t192 t193).bind fun bt203 => ((offertoryref09_Add.f x167000_1 x167001_1 x167002_1 x167003_1 x167004_1 x167005_1 x167006_1 x167007_1 bt203.1 bt203.2.1 bt203.2.2.1 bt203.2.2.2.1 bt203.2.2.2.2.1 bt203.2.2.2.2.2.1 bt203.2.2.2.2.2.2.1 bt203.2.2.2.2.2.2.2).bind fun bt211 => (offertoryref09_Stats.l0 k1 l1 (wrap64 (x8_1 + 1)) a0_0 a0_1 a0_2 l0_3 y183 (l1.length : Int) 0 0 0 0 false bt195.1 bt195.2.1 bt195.2.2.1 bt195.2.2.2.1 bt195.2.2.2.2.1 bt195.2.2.2.2.2.1 bt195.2.2.2.2.2.2.1 bt195.2.2.2.2.2.2.2 bt211.1 bt211.2.1 bt211.2.2.1 bt211.2.2.2.1 bt211.2.2.2.2.1 bt211.2.2.2.2.2.1 bt211.2.2.2.2.2.2.1 bt211.2.2.2.2.2.2.2)))) = some (r1, r2, r3, r4, r5, r6, r7) := H
         have A35 := Aside0.mk A350
         clear A350
         replace H := Option.bind_eq_some_iff.mp H
         obtain ⟨⟨t195, t196, t197, t198, t199, t200, t201, t202⟩, A360, H⟩ := H
         replace H : ((offertoryref09_Mul.f t186 t187 t188 t189 t190 t191 t192 t193 t186 t187 t188 t189 t190 t191 t192 t193).bind fun bt203 => ((offertoryref09_Add.f x167000_1 x167001_1 x167002_1 x167003_1 x167004_1 x167005_1 x167006_1 x167007_1 bt203.1 bt203.2.1 bt203.2.2.1 bt203.2.2.2.1 bt203.2.2.2.2.1 bt203.2.2.2.2.2.1 bt203.2.2.2.2.2.2.1 bt203.2.2.2.2.2.2.2).bind fun bt211 => (offertoryref09_Stats.l0 k1 l1 (wrap64 (x8_1 + 1)) a0_0 a0_1 a0_2 l0_3 y183 (l1.length : Int) 0 0 0 0 false t195 t196 t197 t198 t199 t200 t201 t202 bt211.1 bt211.2.1 bt211.2.2.1 bt211.2.2.2.1 bt211.2.2.2.2.1 bt211.2.2.2.2.2.1 bt211.2.2.2.2.2.2.1 bt211.2.2.2.2.2.2.2))) = some (r1, r2, r3, r4, r5, r6, r7) := H
         have A36 := Aside0.mk A360
         clear A360
         replace H := Option.bind_eq_some_iff.mp H
         obtain ⟨⟨t203, t204, t205, t206, t207, t208, t209, t210⟩, A370, H⟩ := H
         replace H : ((offertoryref09_Add.f x167000_1 x167001_1 x167002_1 x167003_1 x167004_1 x167005_1 x167006_1 x167007_1 t203 t204 t205 t206 t207 t208 t209 t210).bind fun bt211 => (offertoryref09_Stats.l0 k1 l1 (wrap64 (x8_1 + 1)) a0_0 a0_1 a0_2 l0_3 y183 (l1.length : Int) 0 0 0 0 false t195 t196 t197 t198 t199 t200 t201 t202 bt211.1 bt211.2.1 bt211.2.2.1 bt211.2.2.2.1 bt211.2.2.2.2.1 bt211.2.2.2.2.2.1 bt211.2.2.2.2.2.2.1 bt211.2.2.2.2.2.2.2)) = some (r1, r2, r3, r4, r5, r6, r7) := H
         have A37 := Aside0.mk A370
         clear A370
         replace H := Option.bind_eq_some_iff.mp H
         obtain ⟨⟨t211, t212, t213, t214, t215, t216, t217, t218⟩, A380, H⟩ := H
         replace H : (offertoryref09_Stats.l0 k1 l1 (wrap64 (x8_1 + 1)) a0_0 a0_1 a0_2 l0_3 y183 (l1.length : Int) 0 0 0 0 false t195 t196 t197 t198 t199 t200 t201 t202 t211 t212 t213 t214 t215 t216 t217 t218) = some (r1, r2, r3, r4, r5, r6, r7) := H
         have A38 := Aside0.mk A380
         clear A380
         have H' := Aside0.mk H
         clear H
         try go_wp2
         have n0_ := Aside0.mk (Kd.R_drew HO_165000.out)
         have n1_ := Aside0.mk (blk_drew BK159.out)
         have n2_ := Aside0.mk (blk_drew BK160.out)
         have n3_ := Aside0.mk (blk_drew BK164.out)
         have n4_ := Aside0.mk (blk_drew BK165.out)
         have n5_ := Aside0.mk (blk_drew BK166.out)
         have n6_ := Aside0.mk (below_drew1 HB.out)
         clear HO_165000
         clear BK159
         clear BK160
         clear BK164
         clear BK165
         clear BK166
         clear HB
         have HO_165000 := n0_
         have BK159 := n1_
         have BK160 := n2_
         have BK164 := n3_
         have BK165 := n4_
         have BK166 := n5_
         have HB := n6_
         clear n0_ n1_ n2_ n3_ n4_ n5_ n6_
         have p180 : 0 ≤ (x8_1 : Int) := of_decide_eq_true (by first | (with_reducible assumption) | assumption)
         have q180 : x8_1 < (l1.length : Int) := of_decide_eq_true (by first | (with_reducible assumption) | assumption)
         obtain ⟨ad180, e180, hx180_0⟩ := Kd.at_int HR1.out x8_1 p180 q180
         have hw180_0 := hx180_0
         cases e180
         replace hx180_0 := (HB.out.cell (World.block_lt_of_cell? w _ hx180_0)).trans hx180_0
         replace p180 := eq_true p180
         replace q180 := eq_true q180
         obtain ⟨Ao41, co41, eo41⟩ := Kd.R_slice HO_165000.out
         (first | subst eo41 | (injection eo41 with f1_ f2_ f3_; have f4_ := f1_.symm; have f5_ := f3_.symm; clear f1_ f2_ f3_; subst f4_; subst f5_))
         have p182 : 0 ≤ (t181 : Int) := of_decide_eq_true (by first | (with_reducible assumption) | assumption)
         have q182 : t181 < (x165000_1.length : Int) := of_decide_eq_true (by first | (with_reducible assumption) | assumption)
         obtain ⟨ad182, e182, hx182_0⟩ := Kd.at_int (Kd.R_reads' HO_165000.out).2.2 t181 p182 q182
         cases e182
         replace p182 := eq_true p182
         replace q182 := eq_true q182
         refine start_ (n := 13) (S := fun w' => w'.cell? ⟨gb164, 0, none⟩ = some (.slice (some ad182) x165000_1.length co41) ∧ w'.cell? ⟨gb164, 1, none⟩ = some (.int .i64 (l1.length : Int)) ∧ w'.cell? ⟨gb164, 2, none⟩ = some (.int .u64 0) ∧ w'.cell? ⟨gb164, 3, none⟩ = some (.int .u64 0) ∧ w'.cell? ⟨gb164, 4, none⟩ = some (.int .u64 0) ∧ w'.cell? ⟨gb164, 5, none⟩ = some (.int .u64 0) ∧ w'.cell? ⟨gb164, 6, none⟩ = some (.bool false) ∧ w'.cell? ⟨gb159, 0, none⟩ = some (.int .i64 a0_0) ∧ w'.cell? ⟨gb159, 1, none⟩ = some (.int .i64 a0_1) ∧ w'.cell? ⟨gb159, 2, none⟩ = some (.int .i64 a0_2) ∧ w'.cell? ⟨gb159, 3, none⟩ = some (.slice A0_3 l0_3.length c0_3) ∧ w'.cell? (ad180.add (x8_1).toNat) = some (.int .i64 (rd l1 x8_1)) ∧ w'.cell? (ad182.add (t181).toNat) = some (.int .i64 (rd x165000_1 t181))) (ds := [12]) #[F, F, F, F, F, F, F, F, F, F, F, F, F] (by kernel_rfl) rfl rfl ⟨(blk_cell BK164.out 0).trans rfl, (blk_cell BK164.out 1).trans rfl, (blk_cell BK164.out 2).trans rfl, (blk_cell BK164.out 3).trans rfl, (blk_cell BK164.out 4).trans rfl, (blk_cell BK164.out 5).trans rfl, (blk_cell BK164.out 6).trans rfl, (blk_cell BK159.out 0).trans rfl, (blk_cell BK159.out 1).trans rfl, (blk_cell BK159.out 2).trans rfl, (blk_cell BK159.out 3).trans rfl, ((HB.out.cell (World.block_lt_of_cell? w _ hw180_0)).trans hw180_0), hx182_0⟩ (fun hHeld => ?_); refine with_tabW offertoryref09_Stats.tab6 offertoryref09_Stats.bits6 (fun HT_ HW_ => ?_)
         generalize wr.drew = w39 at HO_165000 BK159 BK160 BK164 BK165 BK166 HB hx180_0 hx182_0 hHeld ⊢
         refine pure_ (i := 0) (N := some 26) (v := ?_) (a' := ?_) #[T, F, F, F, F, F, F, F, F, F, F, F, F] rfl rfl (any_of HT_.out (by kernel_rfl)) (fun _ _ _ h => h) (Or.inl ⟨by rfl, ?_⟩) ?_ ?_
         rotate_left
         ·
          intro w'
          (try simp only [add_plain] at s0 s1 s2 s3 s4 s5 s6 s7 s8 s9 s10 s11 s12)
          go_simp
          with_reducible rfl
         rotate_left
         ·
          simp only [Act.put, List.setIfInBounds_toArray, List.set_cons_zero, List.set_cons_succ, i64_w, i32_w]
          rfl
         refine pure_ (i := 3) (N := some 29) (v := ?_) (a' := ?_) #[T, F, F, T, F, F, F, F, F, F, F, F, F] rfl rfl (any_of HT_.out (by kernel_rfl)) (fun _ _ _ h => h) (Or.inl ⟨by rfl, ?_⟩) ?_ ?_
         rotate_left
         ·
          intro w'
          (try simp only [add_plain] at s0 s1 s2 s3 s4 s5 s6 s7 s8 s9 s10 s11 s12)
          go_simp
          with_reducible rfl
         rotate_left
         ·
          simp only [Act.put, List.setIfInBounds_toArray, List.set_cons_zero, List.set_cons_succ, i64_w, i32_w]
          rfl
         refine pure_ (i := 4) (N := some 30) (v := ?_) (a' := ?_) #[T, F, F, T, T, F, F, F, F, F, F, F, F] rfl rfl (any_of HT_.out (by kernel_rfl)) (fun _ _ _ h => h) (Or.inl ⟨by rfl, ?_⟩) ?_ ?_
         rotate_left
         ·
          intro w'
          (try simp only [add_plain] at s0 s1 s2 s3 s4 s5 s6 s7 s8 s9 s10 s11 s12)
          go_simp
          with_reducible rfl
         rotate_left
         ·
          simp only [Act.put, List.setIfInBounds_toArray, List.set_cons_zero, List.set_cons_succ, i64_w, i32_w]
          rfl
         refine pure_ (i := 5) (N := some 31) (v := ?_) (a' := ?_) #[T, F, F, T, T, T, F, F, F, F, F, F, F] rfl rfl (any_of HT_.out (by kernel_rfl)) (fun _ _ _ h => h) (Or.inl ⟨by rfl, ?_⟩) ?_ ?_
         rotate_left
         ·
          intro w'
          (try simp only [add_plain] at s0 s1 s2 s3 s4 s5 s6 s7 s8 s9 s10 s11 s12)
          go_simp
          with_reducible rfl
         rotate_left
         ·
          simp only [Act.put, List.setIfInBounds_toArray, List.set_cons_zero, List.set_cons_succ, i64_w, i32_w]
          rfl
         refine take_ (i := 1) (N := some 27) (v := ?_) (a' := ?_) #[T, T, F, T, T, T, F, F, F, F, F, F, F] rfl rfl (take_ofW HT_.out HW_.out (by kernel_rfl)) (fun _ _ _ h => h) (Or.inl ⟨by rfl, ?_⟩) hHeld ?_ ?_
         rotate_left
         ·
          rintro w' ⟨s0, s1, s2, s3, s4, s5, s6, s7, s8, s9, s10, s11, s12⟩
          (try simp only [add_plain] at s0 s1 s2 s3 s4 s5 s6 s7 s8 s9 s10 s11 s12)
          go_simp
          with_reducible rfl
         rotate_left
         ·
          simp only [Act.put, List.setIfInBounds_toArray, List.set_cons_zero, List.set_cons_succ, i64_w, i32_w]
          rfl
         refine take_ (i := 2) (N := some 28) (v := ?_) (a' := ?_) #[T, T, T, T, T, T, F, F, F, F, F, F, F] rfl rfl (take_ofW HT_.out HW_.out (by kernel_rfl)) (fun _ _ _ h => h) (Or.inl ⟨by rfl, ?_⟩) hHeld ?_ ?_
         rotate_left
         ·
          rintro w' ⟨s0, s1, s2, s3, s4, s5, s6, s7, s8, s9, s10, s11, s12⟩
          (try simp only [add_plain] at s0 s1 s2 s3 s4 s5 s6 s7 s8 s9 s10 s11 s12)
          go_simp
          with_reducible rfl
         rotate_left
         ·
          simp only [Act.put, List.setIfInBounds_toArray, List.set_cons_zero, List.set_cons_succ, i64_w, i32_w]
          rfl
         refine take_ (i := 6) (N := some 32) (v := ?_) (a' := ?_) #[T, T, T, T, T, T, T, F, F, F, F, F, F] rfl rfl (take_ofW HT_.out HW_.out (by kernel_rfl)) (fun _ _ _ h => h) (Or.inl ⟨by rfl, ?_⟩) hHeld ?_ ?_
         rotate_left
         ·
          rintro w' ⟨s0, s1, s2, s3, s4, s5, s6, s7, s8, s9, s10, s11, s12⟩
          (try simp only [add_plain] at s0 s1 s2 s3 s4 s5 s6 s7 s8 s9 s10 s11 s12)
          go_simp
          with_reducible rfl
         rotate_left
         ·
          simp only [Act.put, List.setIfInBounds_toArray, List.set_cons_zero, List.set_cons_succ, i64_w, i32_w]
          rfl
         refine one_ (i := 7) (N := some 33) #[T, T, T, T, T, T, T, T, F, F, F, F, F] rfl rfl (one_of HT_.out (by kernel_rfl)) (by decide) (fun K hK => ?_)
         refine goes_ Try.func9 (by kernel_rfl) rfl #[.agg #[.int .i64 a0_0, .int .i64 a0_1, .int .i64 a0_2, .slice A0_3 l0_3.length c0_3], .int .i64 (rd l1 x8_1)] (by rfl) rfl rfl (by (try simp only [List.map_toArray, List.map_cons, List.map_nil]); first | done | rfl | (simp only [List.length_drop, List.length_take]; rfl)) ?_
         with_reducible refine (offertoryref09_Bin.calls k1 a0_0 a0_1 a0_2 _ _ l0_3 (rd l1 x8_1) t181 _ ?side1 ?side2 A30.out).mono ?_
         (case side1 => repeat (first | exact (Kd.C_below HR0_3.out HB.out) | (with_reducible refine Kd.C_alloc ?_ _) | (with_reducible refine Kd.C_drewN ?_ _) | (with_reducible refine Kd.C_drew ?_)))
         (case side2 => exact HC0_3.out)
         rintro e w40 ⟨rfl, hb⟩
         have HS12_ := (hb.cell (World.block_lt_of_cell? _ _ (hHeld.2.2.2.2.2.2.2.2.2.2.2.2))).trans (hHeld.2.2.2.2.2.2.2.2.2.2.2.2)
         refine ⟨_, rfl, ?_⟩
         have n0_ := Aside0.mk (Kd.R_below (by (with_reducible repeat (first | apply Kd.R_alloc | apply Kd.R_drewN | apply Kd.R_drew)); exact HO_165000.out) hb)
         have n1_ := offertoryref09_Stats.keepB BK159 hb
         have n2_ := offertoryref09_Stats.keepB BK160 hb
         have n3_ := offertoryref09_Stats.keepB BK164 hb
         have n4_ := offertoryref09_Stats.keepB BK165 hb
         have n5_ := offertoryref09_Stats.keepB BK166 hb
         have n6_ := Aside0.mk (below_step (by repeat (first | (with_reducible first | exact HB.out | apply below_alloc | apply pw_below_drewN | apply below_drew1 | refine below_set ?_ GE159.out | refine below_set ?_ GE160.out | refine below_set ?_ GE164.out | refine below_set ?_ GE165.out | refine below_set ?_ GE166.out) | exact HB.out)) hb)
         clear HO_165000
         clear BK159
         clear BK160
         clear BK164
         clear BK165
         clear BK166
         clear HB
         have HO_165000 := n0_
         have BK159 := n1_
         have BK160 := n2_
         have BK164 := n3_
         have BK165 := n4_
         have BK166 := n5_
         have HB := n6_
         clear n0_ n1_ n2_ n3_ n4_ n5_ n6_
         (try clear hb)
         (try clear hb2)
         (try clear hk)
         (try clear hi)
         have p33 : 0 ≤ (t181 : Int) := of_decide_eq_true (by first | (with_reducible assumption) | assumption)
         have q33 : (t181 : Int) < ((x165000_1.length : Int) : Int) := of_decide_eq_true (by first | (with_reducible assumption) | assumption)
         obtain ⟨go33, co33, eo33, gb33, gl33, cl33, HG33⟩ := Kd.R_form HO_165000.out (by omega)
         (first | cases eo33 | (injection eo33 with ea_ en_ ec_; (first | subst ea_ | (injection ea_ with ea_; subst ea_)); subst ec_; clear en_))
         have GB33 := Aside0.mk gb33
         have GG33 := Aside0.mk HG33
         clear gb33 gl33 HG33
         (first | simp only [add_plain] at hx182_0 | skip)
         obtain ⟨hx33_0, hf33_0⟩ := Kd.R_celln 0 HO_165000.out (t181 : Int) p33 q33
         replace p33 := eq_true p33
         replace q33 := eq_true q33
         have HP42 := Kd.R_putn HO_165000.out (t181 : Int) (wrap64 ((rd x165000_1 t181) + 1))
         rw [← Ny183.out] at HP42
         have HQ42 := Aside0.mk HP42
         clear HP42
         refine hK.out _ _ ⟨(blk_cell BK164.out 0).trans rfl, (blk_cell BK164.out 1).trans rfl, (blk_cell BK164.out 2).trans rfl, (blk_cell BK164.out 3).trans rfl, (blk_cell BK164.out 4).trans rfl, (blk_cell BK164.out 5).trans rfl, (blk_cell BK164.out 6).trans rfl, (blk_cell BK159.out 0).trans rfl, (blk_cell BK159.out 1).trans rfl, (blk_cell BK159.out 2).trans rfl, (blk_cell BK159.out 3).trans rfl, ((HB.out.cell (World.block_lt_of_cell? w _ hw180_0)).trans hw180_0), HS12_⟩ (fun hHeld => ?_)
         clear hK K
         refine norm_ (a' := ?_) ?_ ?_
         rotate_left
         ·
          show Act.put _ (some 33) _ = _
          simp only [Act.put, List.setIfInBounds_toArray, List.set_cons_zero, List.set_cons_succ, i64_w, i32_w]
          rfl
         refine pure_ (i := 8) (N := some 34) (v := ?_) (a' := ?_) #[T, T, T, T, T, T, T, T, T, F, F, F, F] rfl rfl (any_of HT_.out (by kernel_rfl)) (fun _ _ _ h => h) (Or.inl ⟨by rfl, ?_⟩) ?_ ?_
         rotate_left
         ·
          intro w'
          (try simp only [add_plain] at s0 s1 s2 s3 s4 s5 s6 s7 s8 s9 s10 s11 s12)
          go_simp
          with_reducible rfl
         rotate_left
         ·
          simp only [Act.put, List.setIfInBounds_toArray, List.set_cons_zero, List.set_cons_succ, i64_w, i32_w]
          rfl
         refine take_ (i := 9) (N := some 35) (v := ?_) (a' := ?_) #[T, T, T, T, T, T, T, T, T, T, F, F, F] rfl rfl (take_ofW HT_.out HW_.out (by kernel_rfl)) (fun _ _ _ h => h) (Or.inl ⟨by rfl, ?_⟩) hHeld ?_ ?_
         rotate_left
         ·
          rintro w' ⟨s0, s1, s2, s3, s4, s5, s6, s7, s8, s9, s10, s11, s12⟩
          (try simp only [add_plain] at s0 s1 s2 s3 s4 s5 s6 s7 s8 s9 s10 s11 s12)
          go_simp
          with_reducible rfl
         rotate_left
         ·
          simp only [Act.put, List.setIfInBounds_toArray, List.set_cons_zero, List.set_cons_succ, i64_w, i32_w]
          rfl
         refine pure_ (i := 10) (N := some 36) (v := ?_) (a' := ?_) #[T, T, T, T, T, T, T, T, T, T, T, F, F] rfl rfl (any_of HT_.out (by kernel_rfl)) (fun _ _ _ h => h) (Or.inl ⟨by rfl, ?_⟩) ?_ ?_
         rotate_left
         ·
          intro w'
          (try simp only [add_plain] at s0 s1 s2 s3 s4 s5 s6 s7 s8 s9 s10 s11 s12)
          go_simp
          with_reducible rfl
         rotate_left
         ·
          simp only [Act.put, List.setIfInBounds_toArray, List.set_cons_zero, List.set_cons_succ, i64_w, i32_w]
          rfl
         refine pure_ (i := 11) (N := some 37) (v := ?_) (a' := ?_) #[T, T, T, T, T, T, T, T, T, T, T, T, F] rfl rfl (any_of HT_.out (by kernel_rfl)) (fun _ _ _ h => h) (Or.inl ⟨by rfl, ?_⟩) ?_ ?_
         rotate_left
         ·
          intro w'
          (try simp only [add_plain] at s0 s1 s2 s3 s4 s5 s6 s7 s8 s9 s10 s11 s12)
          go_simp
          with_reducible rfl
         rotate_left
         ·
          simp only [Act.put, List.setIfInBounds_toArray, List.set_cons_zero, List.set_cons_succ, i64_w, i32_w]
          rfl
         refine last_ (i := 12) (N := none) #[T, T, T, T, T, T, T, T, T, T, T, T, T] rfl rfl (one_of HT_.out (by kernel_rfl)) (by decide) (fun K hK => ?_)
         refine skip_ (w1 := ?_) ?_ ?_ ?_ ?_
         rotate_left
         · rfl
         · rfl
         ·
           go_simp
           rfl
         refine hK.out _ _ ?_
         clear hK K
         refine done_ (done_of HT_.out (by kernel_rfl)) ?_
         have n0_ : Aside0 (Kd.R (Kd.int .i64) 3 (w40.setCell ⟨go33, (t181 : Int).toNat, none⟩ (.int .i64 (wrap64 ((rd x165000_1 t181) + 1)))) w.heap.size (fun _ => True) (.slice (some ⟨go33, 0, none⟩) x165000_1.length co41) y183) := ⟨by (with_reducible repeat (first | apply Kd.R_alloc | apply Kd.R_drewN | apply Kd.R_drew)); exact HQ42.out⟩
         have n1_ : Aside0 ((w40.setCell ⟨go33, (t181 : Int).toNat, none⟩ (.int .i64 (wrap64 ((rd x165000_1 t181) + 1)))).heap[gb159]? = some (.cells #[.int .i64 a0_0, .int .i64 a0_1, .int .i64 a0_2, .slice A0_3 l0_3.length c0_3] 24 (0, 0))) := ⟨by (with_reducible repeat (first | refine blk_drewN ?_ _ | refine blk_drew ?_ | refine blk_alloc ?_ _)); refine blk_far ?_ (by have h_ := Kd.R_ne HO_165000.out BK159.out (by decide); intro e_; exact h_ (by rw [e_]; rfl)) _; (with_reducible repeat (first | refine blk_drewN ?_ _ | refine blk_drew ?_ | refine blk_alloc ?_ _)); exact BK159.out⟩
         have n2_ : Aside0 ((w40.setCell ⟨go33, (t181 : Int).toNat, none⟩ (.int .i64 (wrap64 ((rd x165000_1 t181) + 1)))).heap[gb160]? = some (.cells #[.slice none 0 0, .int .i64 0, .int .u64 0, .int .u64 0, .int .u64 0, .int .u64 0, .bool false] 36 (0, 0))) := ⟨by (with_reducible repeat (first | refine blk_drewN ?_ _ | refine blk_drew ?_ | refine blk_alloc ?_ _)); refine blk_far ?_ (by have h_ := Kd.R_ne HO_165000.out BK160.out (by decide); intro e_; exact h_ (by rw [e_]; rfl)) _; (with_reducible repeat (first | refine blk_drewN ?_ _ | refine blk_drew ?_ | refine blk_alloc ?_ _)); exact BK160.out⟩
         have n3_ : Aside0 ((w40.setCell ⟨go33, (t181 : Int).toNat, none⟩ (.int .i64 (wrap64 ((rd x165000_1 t181) + 1)))).heap[gb164]? = some (.cells #[.slice (some ⟨go33, 0, none⟩) x165000_1.length co41, .int .i64 (l1.length : Int), .int .u64 0, .int .u64 0, .int .u64 0, .int .u64 0, .bool false] 36 (0, 0))) := ⟨by (with_reducible repeat (first | refine blk_drewN ?_ _ | refine blk_drew ?_ | refine blk_alloc ?_ _)); refine blk_far ?_ (by have h_ := Kd.R_ne HO_165000.out BK164.out (by decide); intro e_; exact h_ (by rw [e_]; rfl)) _; (with_reducible repeat (first | refine blk_drewN ?_ _ | refine blk_drew ?_ | refine blk_alloc ?_ _)); exact BK164.out⟩
         have n4_ : Aside0 ((w40.setCell ⟨go33, (t181 : Int).toNat, none⟩ (.int .i64 (wrap64 ((rd x165000_1 t181) + 1)))).heap[gb165]? = some (.cells #[.int .u32 x166000_1, .int .u32 x166001_1, .int .u32 x166002_1, .int .u32 x166003_1, .int .u32 x166004_1, .int .u32 x166005_1, .int .u32 x166006_1, .int .u32 x166007_1] 41 (0, 0))) := ⟨by (with_reducible repeat (first | refine blk_drewN ?_ _ | refine blk_drew ?_ | refine blk_alloc ?_ _)); refine blk_far ?_ (by have h_ := Kd.R_ne HO_165000.out BK165.out (by decide); intro e_; exact h_ (by rw [e_]; rfl)) _; (with_reducible repeat (first | refine blk_drewN ?_ _ | refine blk_drew ?_ | refine blk_alloc ?_ _)); exact BK165.out⟩
         have n5_ : Aside0 ((w40.setCell ⟨go33, (t181 : Int).toNat, none⟩ (.int .i64 (wrap64 ((rd x165000_1 t181) + 1)))).heap[gb166]? = some (.cells #[.int .u32 x167000_1, .int .u32 x167001_1, .int .u32 x167002_1, .int .u32 x167003_1, .int .u32 x167004_1, .int .u32 x167005_1, .int .u32 x167006_1, .int .u32 x167007_1] 41 (0, 0))) := ⟨by (with_reducible repeat (first | refine blk_drewN ?_ _ | refine blk_drew ?_ | refine blk_alloc ?_ _)); refine blk_far ?_ (by have h_ := Kd.R_ne HO_165000.out BK166.out (by decide); intro e_; exact h_ (by rw [e_]; rfl)) _; (with_reducible repeat (first | refine blk_drewN ?_ _ | refine blk_drew ?_ | refine blk_alloc ?_ _)); exact BK166.out⟩
         have n6_ : Aside0 (Below w.heap.size w (w40.setCell ⟨go33, (t181 : Int).toNat, none⟩ (.int .i64 (wrap64 ((rd x165000_1 t181) + 1))))) := ⟨by repeat (first | (with_reducible first | exact HB.out | apply below_alloc | apply pw_below_drewN | apply below_drew1 | refine below_set ?_ GB33.out | refine below_set ?_ GE159.out | refine below_set ?_ GE160.out | refine below_set ?_ GE164.out | refine below_set ?_ GE165.out | refine below_set ?_ GE166.out) | exact HB.out)⟩
         (try clear HO_165000)
         (try clear BK159)
         (try clear BK160)
         (try clear BK164)
         (try clear BK165)
         (try clear BK166)
         (try clear HB)
         generalize (w40.setCell ⟨go33, (t181 : Int).toNat, none⟩ (.int .i64 (wrap64 ((rd x165000_1 t181) + 1)))) = w43 at n0_ n1_ n2_ n3_ n4_ n5_ n6_ ⊢
         have HO_165000 := n0_
         have BK159 := n1_
         have BK160 := n2_
         have BK164 := n3_
         have BK165 := n4_
         have BK166 := n5_
         have HB := n6_
         clear n0_ n1_ n2_ n3_ n4_ n5_ n6_
         try go_wp2
         have n0_ := Aside0.mk (Kd.R_drew HO_165000.out)
         have n1_ := Aside0.mk (blk_drew BK159.out)
         have n2_ := Aside0.mk (blk_drew BK160.out)
         have n3_ := Aside0.mk (blk_drew BK164.out)
         have n4_ := Aside0.mk (blk_drew BK165.out)
         have n5_ := Aside0.mk (blk_drew BK166.out)
         have n6_ := Aside0.mk (below_drew1 HB.out)
         clear HO_165000
         clear BK159
         clear BK160
         clear BK164
         clear BK165
         clear BK166
         clear HB
         have HO_165000 := n0_
         have BK159 := n1_
         have BK160 := n2_
         have BK164 := n3_
         have BK165 := n4_
         have BK166 := n5_
         have HB := n6_
         clear n0_ n1_ n2_ n3_ n4_ n5_ n6_
         have p184 : 0 ≤ (x8_1 : Int) := of_decide_eq_true (by first | (with_reducible assumption) | assumption)
         have q184 : x8_1 < (l1.length : Int) := of_decide_eq_true (by first | (with_reducible assumption) | assumption)
         obtain ⟨ad184, e184, hx184_0⟩ := Kd.at_int HR1.out x8_1 p184 q184
         have hw184_0 := hx184_0
         obtain rfl : ad180 = ad184 := (by injection e184)
         replace hx184_0 := (HB.out.cell (World.block_lt_of_cell? w _ hx184_0)).trans hx184_0
         replace p184 := eq_true p184
         replace q184 := eq_true q184
         refine start_ (n := 9) (S := fun w' => True) (ds := []) #[F, F, F, F, F, F, F, F, F] (by kernel_rfl) rfl rfl trivial (fun hHeld => ?_); refine with_tabW offertoryref09_Stats.tab7 offertoryref09_Stats.bits7 (fun HT_ HW_ => ?_)
         generalize w43.drew = w44 at HO_165000 BK159 BK160 BK164 BK165 BK166 HB hx184_0 hHeld ⊢
         refine pure_ (i := 1) (N := some 39) (v := ?_) (a' := ?_) #[F, T, F, F, F, F, F, F, F] rfl rfl (any_of HT_.out (by kernel_rfl)) (fun _ _ _ h => h) (Or.inl ⟨by rfl, ?_⟩) ?_ ?_
         rotate_left
         ·
          intro w'
          go_simp
          with_reducible rfl
         rotate_left
         ·
          simp only [Act.put, List.setIfInBounds_toArray, List.set_cons_zero, List.set_cons_succ, i64_w, i32_w]
          rfl
         refine pure_ (i := 2) (N := some 40) (v := ?_) (a' := ?_) #[F, T, T, F, F, F, F, F, F] rfl rfl (any_of HT_.out (by kernel_rfl)) (fun _ _ _ h => h) (Or.inl ⟨by rfl, ?_⟩) ?_ ?_
         rotate_left
         ·
          intro w'
          go_simp
          with_reducible rfl
         rotate_left
         ·
          simp only [Act.put, List.setIfInBounds_toArray, List.set_cons_zero, List.set_cons_succ, i64_w, i32_w]
          rfl
         refine inv_at [0, 3, 4, 5, 6, 7, 8] (fun a0_ b a w' => ∃ (gb194 : Nat) (m7_ : Value), a = putSel a0_ b [(0, 38, .agg #[.int .i64 a0_0, .int .i64 a0_1, .int .i64 a0_2, .slice A0_3 l0_3.length c0_3]), (3, 41, .pointer (some (ad180.add (x8_1).toNat))), (4, 42, .int .i64 (rd l1 x8_1)), (5, 43, .int .i64 t185), (6, 44, .agg #[.int .u32 t186, .int .u32 t187, .int .u32 t188, .int .u32 t189, .int .u32 t190, .int .u32 t191, .int .u32 t192, .int .u32 t193]), (7, 9, m7_)] ∧ (Kd.R (Kd.int .i64) 3 w' w.heap.size (fun _ => True) (.slice (some ⟨go33, 0, none⟩) x165000_1.length co41) y183) ∧ (w'.heap[gb159]? = some (.cells #[.int .i64 a0_0, .int .i64 a0_1, .int .i64 a0_2, .slice A0_3 l0_3.length c0_3] 24 (0, 0))) ∧ (w'.heap[gb160]? = some (.cells #[.slice none 0 0, .int .i64 0, .int .u64 0, .int .u64 0, .int .u64 0, .int .u64 0, .bool false] 36 (0, 0))) ∧ (w'.heap[gb164]? = some (.cells #[.slice (some ⟨go33, 0, none⟩) x165000_1.length co41, .int .i64 (l1.length : Int), .int .u64 0, .int .u64 0, .int .u64 0, .int .u64 0, .bool false] 36 (0, 0))) ∧ (w'.heap[gb165]? = some (.cells #[.int .u32 x166000_1, .int .u32 x166001_1, .int .u32 x166002_1, .int .u32 x166003_1, .int .u32 x166004_1, .int .u32 x166005_1, .int .u32 x166006_1, .int .u32 x166007_1] 41 (0, 0))) ∧ (w'.heap[gb166]? = some (.cells #[.int .u32 x167000_1, .int .u32 x167001_1, .int .u32 x167002_1, .int .u32 x167003_1, .int .u32 x167004_1, .int .u32 x167005_1, .int .u32 x167006_1, .int .u32 x167007_1] 41 (0, 0))) ∧ (Below w.heap.size w w') ∧ (b 7 = true → b 8 = false → w'.heap[gb194]? = some (.cells #[.int .u32 0, .int .u32 0, .int .u32 0, .int .u32 0, .int .u32 0, .int .u32 0, .int .u32 0, .int .u32 0] 41 (0, 0))) ∧ (b 7 = true → w.heap.size ≤ gb194) ∧ (b 7 = true → w.heap.size ≤ gb194) ∧ (b 7 = true → gb159 ≠ gb194) ∧ (b 7 = true → gb194 ≠ gb159) ∧ (b 7 = true → gb160 ≠ gb194) ∧ (b 7 = true → gb194 ≠ gb160) ∧ (b 7 = true → gb164 ≠ gb194) ∧ (b 7 = true → gb194 ≠ gb164) ∧ (b 7 = true → gb165 ≠ gb194) ∧ (b 7 = true → gb194 ≠ gb165) ∧ (b 7 = true → gb166 ≠ gb194) ∧ (b 7 = true → gb194 ≠ gb166) ∧ (b 8 = true → w'.heap[gb194]? = some (.cells #[.int .u32 t186, .int .u32 t187, .int .u32 t188, .int .u32 t189, .int .u32 t190, .int .u32 t191, .int .u32 t192, .int .u32 t193] 41 (0, 0))) ∧ (b 7 = true → (m7_ : Value) = .pointer (some ⟨gb194, 0, none⟩))) HT_.out HW_.out (by kernel_rfl) (by kernel_rfl) ?_ ?_ ?_
         ·
          exact ⟨0, .bool false, by simp only [putSel, Bool.false_eq_true, if_false], HO_165000.out, BK159.out, BK160.out, BK164.out, BK165.out, BK166.out, HB.out, fun h_ => absurd h_ (by decide), fun h_ => absurd h_ (by decide), fun h_ => absurd h_ (by decide), fun h_ => absurd h_ (by decide), fun h_ => absurd h_ (by decide), fun h_ => absurd h_ (by decide), fun h_ => absurd h_ (by decide), fun h_ => absurd h_ (by decide), fun h_ => absurd h_ (by decide), fun h_ => absurd h_ (by decide), fun h_ => absurd h_ (by decide), fun h_ => absurd h_ (by decide), fun h_ => absurd h_ (by decide), fun h_ => absurd h_ (by decide), fun h_ => absurd h_ (by decide)⟩
         ·
          skip
          clear BK159 BK160 BK164 BK165 BK166 HB HO_165000
          refine steps_cons ?_ ?_
          ·
           rintro b a w' ⟨gb194, m7_, ha, Q_HO_165000, Q_BK159, Q_BK160, Q_BK164, Q_BK165, Q_BK166, Q_HB, Q_BK194, Q_GW194, Q_GE194, Q_NB159_194, Q_NB194_159, Q_NB160_194, Q_NB194_160, Q_NB164_194, Q_NB194_164, Q_NB165_194, Q_NB194_165, Q_NB166_194, Q_NB194_166, Q_BK194_e8, Q_X7_⟩ hb_ hon hoff
           refine ⟨_, rfl, fun K hK => ?_⟩
           have e2 : a.tmps[2]? = some (.pointer (some ⟨gb159, 0, none⟩)) := by rw [ha]; exact (putSel_off rfl).trans rfl
           replace ha := Aside0.mk ha
           have HO_165000 := Aside0.mk Q_HO_165000
           have BK159 := Aside0.mk Q_BK159
           have BK160 := Aside0.mk Q_BK160
           have BK164 := Aside0.mk Q_BK164
           have BK165 := Aside0.mk Q_BK165
           have BK166 := Aside0.mk Q_BK166
           have HB := Aside0.mk Q_HB
           have hc0_ : w'.cell? ⟨gb159, 0, none⟩ = some (.int .i64 a0_0) := (blk_cell BK159.out 0).trans rfl
           have hc1_ : w'.cell? ⟨gb159, 1, none⟩ = some (.int .i64 a0_1) := (blk_cell BK159.out 1).trans rfl
           have hc2_ : w'.cell? ⟨gb159, 2, none⟩ = some (.int .i64 a0_2) := (blk_cell BK159.out 2).trans rfl
           have hc3_ : w'.cell? ⟨gb159, 3, none⟩ = some (.slice A0_3 l0_3.length c0_3) := (blk_cell BK159.out 3).trans rfl
           refine value_ (w1 := w') (v := .agg #[.int .i64 a0_0, .int .i64 a0_1, .int .i64 a0_2, .slice A0_3 l0_3.length c0_3]) (by rfl) rfl ?_ ?_
           ·
            go_simp
            (try simp only [i64_w])
            try rfl
           refine hK.out _ _ ⟨gb194, m7_, (by rw [ha.out]; exact putSel_upk 0 hb_ rfl rfl rfl), Q_HO_165000, Q_BK159, Q_BK160, Q_BK164, Q_BK165, Q_BK166, Q_HB, Q_BK194, Q_GW194, Q_GE194, Q_NB159_194, Q_NB194_159, Q_NB160_194, Q_NB194_160, Q_NB164_194, Q_NB194_164, Q_NB165_194, Q_NB194_165, Q_NB166_194, Q_NB194_166, fun h0_ => absurd ((hoff 8 (by kernel_rfl)).symm.trans h0_) (by decide), Q_X7_⟩
          refine steps_cons ?_ ?_
          ·
           rintro b a w' ⟨gb194, m7_, ha, Q_HO_165000, Q_BK159, Q_BK160, Q_BK164, Q_BK165, Q_BK166, Q_HB, Q_BK194, Q_GW194, Q_GE194, Q_NB159_194, Q_NB194_159, Q_NB160_194, Q_NB194_160, Q_NB164_194, Q_NB194_164, Q_NB165_194, Q_NB194_165, Q_NB166_194, Q_NB194_166, Q_BK194_e8, Q_X7_⟩ hb_ hon hoff
           refine ⟨_, rfl, fun K hK => ?_⟩
           have e39 : a.tmps[39]? = some (.slice (some ad180) l1.length c1) := by rw [ha]; exact (putSel_off rfl).trans rfl
           have e40 : a.tmps[40]? = some (.int .i64 x8_1) := by rw [ha]; exact (putSel_off rfl).trans rfl
           replace ha := Aside0.mk ha
           have HO_165000 := Aside0.mk Q_HO_165000
           have BK159 := Aside0.mk Q_BK159
           have BK160 := Aside0.mk Q_BK160
           have BK164 := Aside0.mk Q_BK164
           have BK165 := Aside0.mk Q_BK165
           have BK166 := Aside0.mk Q_BK166
           have HB := Aside0.mk Q_HB
           have hs0_ : w'.cell? (ad180.add (x8_1).toNat) = some (.int .i64 (rd l1 x8_1)) := ((HB.out.cell (World.block_lt_of_cell? w _ hw184_0)).trans hw184_0)
           refine value_ (w1 := w') (v := .pointer (some (ad180.add (x8_1).toNat))) (by rfl) rfl ?_ ?_
           ·
            go_simp
            (try simp only [i64_w])
            try rfl
           refine hK.out _ _ ⟨gb194, m7_, (by rw [ha.out]; exact putSel_upk 1 hb_ rfl rfl rfl), Q_HO_165000, Q_BK159, Q_BK160, Q_BK164, Q_BK165, Q_BK166, Q_HB, Q_BK194, Q_GW194, Q_GE194, Q_NB159_194, Q_NB194_159, Q_NB160_194, Q_NB194_160, Q_NB164_194, Q_NB194_164, Q_NB165_194, Q_NB194_165, Q_NB166_194, Q_NB194_166, fun h0_ => absurd ((hoff 8 (by kernel_rfl)).symm.trans h0_) (by decide), Q_X7_⟩
          refine steps_cons ?_ ?_
          ·
           rintro b a w' ⟨gb194, m7_, ha, Q_HO_165000, Q_BK159, Q_BK160, Q_BK164, Q_BK165, Q_BK166, Q_HB, Q_BK194, Q_GW194, Q_GE194, Q_NB159_194, Q_NB194_159, Q_NB160_194, Q_NB194_160, Q_NB164_194, Q_NB194_164, Q_NB165_194, Q_NB194_165, Q_NB166_194, Q_NB194_166, Q_BK194_e8, Q_X7_⟩ hb_ hon hoff
           refine ⟨_, rfl, fun K hK => ?_⟩
           have e41 : a.tmps[41]? = some (.pointer (some (ad180.add (x8_1).toNat))) := by rw [ha]; exact putSel_on (e := (3, 41, .pointer (some (ad180.add (x8_1).toNat)))) 1 rfl rfl (hon 3 (by kernel_rfl)) rfl
           replace ha := Aside0.mk ha
           have HO_165000 := Aside0.mk Q_HO_165000
           have BK159 := Aside0.mk Q_BK159
           have BK160 := Aside0.mk Q_BK160
           have BK164 := Aside0.mk Q_BK164
           have BK165 := Aside0.mk Q_BK165
           have BK166 := Aside0.mk Q_BK166
           have HB := Aside0.mk Q_HB
           have hs0_ : w'.cell? (ad180.add (x8_1).toNat) = some (.int .i64 (rd l1 x8_1)) := ((HB.out.cell (World.block_lt_of_cell? w _ hw184_0)).trans hw184_0)
           refine value_ (w1 := w') (v := .int .i64 (rd l1 x8_1)) (by rfl) rfl ?_ ?_
           ·
            go_simp
            (try simp only [i64_w])
            try rfl
           refine hK.out _ _ ⟨gb194, m7_, (by rw [ha.out]; exact putSel_upk 2 hb_ rfl rfl rfl), Q_HO_165000, Q_BK159, Q_BK160, Q_BK164, Q_BK165, Q_BK166, Q_HB, Q_BK194, Q_GW194, Q_GE194, Q_NB159_194, Q_NB194_159, Q_NB160_194, Q_NB194_160, Q_NB164_194, Q_NB194_164, Q_NB165_194, Q_NB194_165, Q_NB166_194, Q_NB194_166, fun h0_ => absurd ((hoff 8 (by kernel_rfl)).symm.trans h0_) (by decide), Q_X7_⟩
          refine steps_cons ?_ ?_
          ·
           rintro b a w' ⟨gb194, m7_, ha, Q_HO_165000, Q_BK159, Q_BK160, Q_BK164, Q_BK165, Q_BK166, Q_HB, Q_BK194, Q_GW194, Q_GE194, Q_NB159_194, Q_NB194_159, Q_NB160_194, Q_NB194_160, Q_NB164_194, Q_NB194_164, Q_NB165_194, Q_NB194_165, Q_NB166_194, Q_NB194_166, Q_BK194_e8, Q_X7_⟩ hb_ hon hoff
           refine ⟨_, rfl, fun K hK => ?_⟩
           have e38 : a.tmps[38]? = some (.agg #[.int .i64 a0_0, .int .i64 a0_1, .int .i64 a0_2, .slice A0_3 l0_3.length c0_3]) := by rw [ha]; exact putSel_on (e := (0, 38, .agg #[.int .i64 a0_0, .int .i64 a0_1, .int .i64 a0_2, .slice A0_3 l0_3.length c0_3])) 0 rfl rfl (hon 0 (by kernel_rfl)) rfl
           have e42 : a.tmps[42]? = some (.int .i64 (rd l1 x8_1)) := by rw [ha]; exact putSel_on (e := (4, 42, .int .i64 (rd l1 x8_1))) 2 rfl rfl (hon 4 (by kernel_rfl)) rfl
           replace ha := Aside0.mk ha
           have HO_165000 := Aside0.mk Q_HO_165000
           have BK159 := Aside0.mk Q_BK159
           have BK160 := Aside0.mk Q_BK160
           have BK164 := Aside0.mk Q_BK164
           have BK165 := Aside0.mk Q_BK165
           have BK166 := Aside0.mk Q_BK166
           have HB := Aside0.mk Q_HB
           refine goes_ Try.func19 (by kernel_rfl) rfl #[.agg #[.int .i64 a0_0, .int .i64 a0_1, .int .i64 a0_2, .slice A0_3 l0_3.length c0_3], .int .i64 (rd l1 x8_1)] (by rfl) rfl rfl (by first | (simp only [List.map_toArray, List.map_cons, List.map_nil, Act.eval, Array.getD_eq_getD_getElem?, Option.getD_some, e38, e42]; done) | (simp only [List.map_toArray, List.map_cons, List.map_nil, Act.eval, Array.getD_eq_getD_getElem?, Option.getD_some, e38, e42]; rfl)) ?_
           with_reducible refine (offertoryref09_Clamp.calls a0_0 a0_1 a0_2 _ _ l0_3 (rd l1 x8_1) t185 _ ?side1 ?side2 A34.out).mono ?_
           (case side1 => repeat (first | exact (Kd.C_below HR0_3.out HB.out) | (with_reducible refine Kd.C_alloc ?_ _) | (with_reducible refine Kd.C_drewN ?_ _) | (with_reducible refine Kd.C_drew ?_)))
           (case side2 => exact HC0_3.out)
           rintro e w45 ⟨rfl, hb⟩
           refine ⟨_, rfl, ?_⟩
           have n0_ := Aside0.mk (Kd.R_below (by (with_reducible repeat (first | apply Kd.R_alloc | apply Kd.R_drewN | apply Kd.R_drew)); exact HO_165000.out) hb)
           have n1_ := offertoryref09_Stats.keepB BK159 hb
           have n2_ := offertoryref09_Stats.keepB BK160 hb
           have n3_ := offertoryref09_Stats.keepB BK164 hb
           have n4_ := offertoryref09_Stats.keepB BK165 hb
           have n5_ := offertoryref09_Stats.keepB BK166 hb
           have n6_ := Aside0.mk (below_step (by repeat (first | (with_reducible first | exact HB.out | apply below_alloc | apply pw_below_drewN | apply below_drew1 | refine below_set ?_ GE159.out | refine below_set ?_ GE160.out | refine below_set ?_ GE164.out | refine below_set ?_ GE165.out | refine below_set ?_ GE166.out) | exact HB.out)) hb)
           have z_BK194 := fun (h0_ : b 7 = true) (h1_ : b 8 = false) => (show w45.heap[gb194]? = some (.cells #[.int .u32 0, .int .u32 0, .int .u32 0, .int .u32 0, .int .u32 0, .int .u32 0, .int .u32 0, .int .u32 0] 41 (0, 0)) from by first | exact (blk_below (g := gb194) (o := .cells #[.int .u32 0, .int .u32 0, .int .u32 0, .int .u32 0, .int .u32 0, .int .u32 0, .int .u32 0, .int .u32 0] 41 (0, 0)) (by (with_reducible repeat (first | refine blk_drewN ?_ _ | refine blk_drew ?_ | refine blk_alloc ?_ _)); exact (Q_BK194 h0_ h1_)) hb))
           clear HO_165000
           clear BK159
           clear BK160
           clear BK164
           clear BK165
           clear BK166
           clear HB
           have HO_165000 := n0_
           have BK159 := n1_
           have BK160 := n2_
           have BK164 := n3_
           have BK165 := n4_
           have BK166 := n5_
           have HB := n6_
           clear n0_ n1_ n2_ n3_ n4_ n5_ n6_
           (try clear hb)
           (try clear hb2)
           (try clear hk)
           (try clear hi)
           refine hK.out _ _ ⟨gb194, m7_, (by rw [ha.out]; exact putSel_upk 3 hb_ rfl rfl rfl), (by (with_reducible repeat (first | apply Kd.R_alloc | apply Kd.R_drewN | apply Kd.R_drew)); exact HO_165000.out), (by (with_reducible repeat (first | refine blk_drewN ?_ _ | refine blk_drew ?_ | refine blk_alloc ?_ _)); exact BK159.out), (by (with_reducible repeat (first | refine blk_drewN ?_ _ | refine blk_drew ?_ | refine blk_alloc ?_ _)); exact BK160.out), (by (with_reducible repeat (first | refine blk_drewN ?_ _ | refine blk_drew ?_ | refine blk_alloc ?_ _)); exact BK164.out), (by (with_reducible repeat (first | refine blk_drewN ?_ _ | refine blk_drew ?_ | refine blk_alloc ?_ _)); exact BK165.out), (by (with_reducible repeat (first | refine blk_drewN ?_ _ | refine blk_drew ?_ | refine blk_alloc ?_ _)); exact BK166.out), (by repeat (first | (with_reducible first | exact HB.out | apply below_alloc | apply pw_below_drewN | apply below_drew1 | refine below_set ?_ GE159.out | refine below_set ?_ GE160.out | refine below_set ?_ GE164.out | refine below_set ?_ GE165.out | refine below_set ?_ GE166.out) | exact HB.out)), z_BK194, Q_GW194, Q_GE194, Q_NB159_194, Q_NB194_159, Q_NB160_194, Q_NB194_160, Q_NB164_194, Q_NB194_164, Q_NB165_194, Q_NB194_165, Q_NB166_194, Q_NB194_166, fun h0_ => absurd ((hoff 8 (by kernel_rfl)).symm.trans h0_) (by decide), Q_X7_⟩
          refine steps_cons ?_ ?_
          ·
           rintro b a w' ⟨gb194, m7_, ha, Q_HO_165000, Q_BK159, Q_BK160, Q_BK164, Q_BK165, Q_BK166, Q_HB, Q_BK194, Q_GW194, Q_GE194, Q_NB159_194, Q_NB194_159, Q_NB160_194, Q_NB194_160, Q_NB164_194, Q_NB194_164, Q_NB165_194, Q_NB194_165, Q_NB166_194, Q_NB194_166, Q_BK194_e8, Q_X7_⟩ hb_ hon hoff
           refine ⟨_, rfl, fun K hK => ?_⟩
           have e43 : a.tmps[43]? = some (.int .i64 t185) := by rw [ha]; exact putSel_on (e := (5, 43, .int .i64 t185)) 3 rfl rfl (hon 5 (by kernel_rfl)) rfl
           replace ha := Aside0.mk ha
           have HO_165000 := Aside0.mk Q_HO_165000
           have BK159 := Aside0.mk Q_BK159
           have BK160 := Aside0.mk Q_BK160
           have BK164 := Aside0.mk Q_BK164
           have BK165 := Aside0.mk Q_BK165
           have BK166 := Aside0.mk Q_BK166
           have HB := Aside0.mk Q_HB
           refine goes_ Try.func11 (by kernel_rfl) rfl #[.int .i64 t185] (by rfl) rfl rfl (by first | (simp only [List.map_toArray, List.map_cons, List.map_nil, Act.eval, Array.getD_eq_getD_getElem?, Option.getD_some, e43]; done) | (simp only [List.map_toArray, List.map_cons, List.map_nil, Act.eval, Array.getD_eq_getD_getElem?, Option.getD_some, e43]; rfl)) ?_
           with_reducible refine (offertoryref09_Int.calls t185 t186 t187 t188 t189 t190 t191 t192 t193 _ A35.out).mono ?_
           rintro e w47 ⟨rfl, hb⟩
           refine ⟨_, rfl, ?_⟩
           have n0_ := Aside0.mk (Kd.R_below (by (with_reducible repeat (first | apply Kd.R_alloc | apply Kd.R_drewN | apply Kd.R_drew)); exact HO_165000.out) hb)
           have n1_ := offertoryref09_Stats.keepB BK159 hb
           have n2_ := offertoryref09_Stats.keepB BK160 hb
           have n3_ := offertoryref09_Stats.keepB BK164 hb
           have n4_ := offertoryref09_Stats.keepB BK165 hb
           have n5_ := offertoryref09_Stats.keepB BK166 hb
           have n6_ := Aside0.mk (below_step (by repeat (first | (with_reducible first | exact HB.out | apply below_alloc | apply pw_below_drewN | apply below_drew1 | refine below_set ?_ GE159.out | refine below_set ?_ GE160.out | refine below_set ?_ GE164.out | refine below_set ?_ GE165.out | refine below_set ?_ GE166.out) | exact HB.out)) hb)
           have z_BK194 := fun (h0_ : b 7 = true) (h1_ : b 8 = false) => (show w47.heap[gb194]? = some (.cells #[.int .u32 0, .int .u32 0, .int .u32 0, .int .u32 0, .int .u32 0, .int .u32 0, .int .u32 0, .int .u32 0] 41 (0, 0)) from by first | exact (blk_below (g := gb194) (o := .cells #[.int .u32 0, .int .u32 0, .int .u32 0, .int .u32 0, .int .u32 0, .int .u32 0, .int .u32 0, .int .u32 0] 41 (0, 0)) (by (with_reducible repeat (first | refine blk_drewN ?_ _ | refine blk_drew ?_ | refine blk_alloc ?_ _)); exact (Q_BK194 h0_ h1_)) hb))
           clear HO_165000
           clear BK159
           clear BK160
           clear BK164
           clear BK165
           clear BK166
           clear HB
           have HO_165000 := n0_
           have BK159 := n1_
           have BK160 := n2_
           have BK164 := n3_
           have BK165 := n4_
           have BK166 := n5_
           have HB := n6_
           clear n0_ n1_ n2_ n3_ n4_ n5_ n6_
           (try clear hb)
           (try clear hb2)
           (try clear hk)
           (try clear hi)
           refine hK.out _ _ ⟨gb194, m7_, (by rw [ha.out]; exact putSel_upk 4 hb_ rfl rfl rfl), (by (with_reducible repeat (first | apply Kd.R_alloc | apply Kd.R_drewN | apply Kd.R_drew)); exact HO_165000.out), (by (with_reducible repeat (first | refine blk_drewN ?_ _ | refine blk_drew ?_ | refine blk_alloc ?_ _)); exact BK159.out), (by (with_reducible repeat (first | refine blk_drewN ?_ _ | refine blk_drew ?_ | refine blk_alloc ?_ _)); exact BK160.out), (by (with_reducible repeat (first | refine blk_drewN ?_ _ | refine blk_drew ?_ | refine blk_alloc ?_ _)); exact BK164.out), (by (with_reducible repeat (first | refine blk_drewN ?_ _ | refine blk_drew ?_ | refine blk_alloc ?_ _)); exact BK165.out), (by (with_reducible repeat (first | refine blk_drewN ?_ _ | refine blk_drew ?_ | refine blk_alloc ?_ _)); exact BK166.out), (by repeat (first | (with_reducible first | exact HB.out | apply below_alloc | apply pw_below_drewN | apply below_drew1 | refine below_set ?_ GE159.out | refine below_set ?_ GE160.out | refine below_set ?_ GE164.out | refine below_set ?_ GE165.out | refine below_set ?_ GE166.out) | exact HB.out)), z_BK194, Q_GW194, Q_GE194, Q_NB159_194, Q_NB194_159, Q_NB160_194, Q_NB194_160, Q_NB164_194, Q_NB194_164, Q_NB165_194, Q_NB194_165, Q_NB166_194, Q_NB194_166, fun h0_ => absurd ((hoff 8 (by kernel_rfl)).symm.trans h0_) (by decide), Q_X7_⟩
          refine steps_cons ?_ ?_
          ·
           rintro b a w' ⟨gb194, m7_, ha, Q_HO_165000, Q_BK159, Q_BK160, Q_BK164, Q_BK165, Q_BK166, Q_HB, Q_BK194, Q_GW194, Q_GE194, Q_NB159_194, Q_NB194_159, Q_NB160_194, Q_NB194_160, Q_NB164_194, Q_NB194_164, Q_NB165_194, Q_NB194_165, Q_NB166_194, Q_NB194_166, Q_BK194_e8, Q_X7_⟩ hb_ hon hoff
           refine ⟨_, rfl, fun K hK => ?_⟩
           replace ha := Aside0.mk ha
           have HO_165000 := Aside0.mk Q_HO_165000
           have BK159 := Aside0.mk Q_BK159
           have BK160 := Aside0.mk Q_BK160
           have BK164 := Aside0.mk Q_BK164
           have BK165 := Aside0.mk Q_BK165
           have BK166 := Aside0.mk Q_BK166
           have HB := Aside0.mk Q_HB
           refine box_step ?hg (N := 9) ?hd (cs := #[.int .u32 0, .int .u32 0, .int .u32 0, .int .u32 0, .int .u32 0, .int .u32 0, .int .u32 0, .int .u32 0]) (t := 41) ?hr ?_; (case hd => rfl); (case hg => rfl); (case hr => first | (go_simp; done) | (go_simp; rfl))
           intro gb194 hg w45 hbox hb
           have n0_ := Aside0.mk (Kd.R_below (by (with_reducible repeat (first | apply Kd.R_alloc | apply Kd.R_drewN | apply Kd.R_drew)); exact HO_165000.out) hb)
           have n1_ := offertoryref09_Stats.keepB BK159 hb
           have n2_ := offertoryref09_Stats.keepB BK160 hb
           have n3_ := offertoryref09_Stats.keepB BK164 hb
           have n4_ := offertoryref09_Stats.keepB BK165 hb
           have n5_ := offertoryref09_Stats.keepB BK166 hb
           have n6_ := Aside0.mk (below_step (by repeat (first | (with_reducible first | exact HB.out | apply below_alloc | apply pw_below_drewN | apply below_drew1 | refine below_set ?_ GE159.out | refine below_set ?_ GE160.out | refine below_set ?_ GE164.out | refine below_set ?_ GE165.out | refine below_set ?_ GE166.out) | exact HB.out)) hb)
           have n7_ := Aside0.mk (hbox)
           have n8_ := Aside0.mk ((by rw [hg]; exact (below_size (by repeat (first | (with_reducible first | exact HB.out | apply below_alloc | apply pw_below_drewN | apply below_drew1 | refine below_set ?_ GE159.out | refine below_set ?_ GE160.out | refine below_set ?_ GE164.out | refine below_set ?_ GE165.out | refine below_set ?_ GE166.out) | exact HB.out))) : w.heap.size ≤ gb194))
           have n9_ := Aside0.mk ((by rw [hg]; exact (below_size (by repeat (first | (with_reducible first | exact HB.out | apply below_alloc | apply pw_below_drewN | apply below_drew1 | refine below_set ?_ GE159.out | refine below_set ?_ GE160.out | refine below_set ?_ GE164.out | refine below_set ?_ GE165.out | refine below_set ?_ GE166.out) | exact HB.out))) : w.heap.size ≤ gb194))
           have n10_ := offertoryref09_Stats.neL BK159 hg
           have n11_ := offertoryref09_Stats.neG BK159 hg
           have n12_ := offertoryref09_Stats.neL BK160 hg
           have n13_ := offertoryref09_Stats.neG BK160 hg
           have n14_ := offertoryref09_Stats.neL BK164 hg
           have n15_ := offertoryref09_Stats.neG BK164 hg
           have n16_ := offertoryref09_Stats.neL BK165 hg
           have n17_ := offertoryref09_Stats.neG BK165 hg
           have n18_ := offertoryref09_Stats.neL BK166 hg
           have n19_ := offertoryref09_Stats.neG BK166 hg
           clear HO_165000
           clear BK159
           clear BK160
           clear BK164
           clear BK165
           clear BK166
           clear HB
           have HO_165000 := n0_
           have BK159 := n1_
           have BK160 := n2_
           have BK164 := n3_
           have BK165 := n4_
           have BK166 := n5_
           have HB := n6_
           have BK194 := n7_
           have GW194 := n8_
           have GE194 := n9_
           have NB159_194 := n10_
           have NB194_159 := n11_
           have NB160_194 := n12_
           have NB194_160 := n13_
           have NB164_194 := n14_
           have NB194_164 := n15_
           have NB165_194 := n16_
           have NB194_165 := n17_
           have NB166_194 := n18_
           have NB194_166 := n19_
           clear n0_ n1_ n2_ n3_ n4_ n5_ n6_ n7_ n8_ n9_ n10_ n11_ n12_ n13_ n14_ n15_ n16_ n17_ n18_ n19_
           clear hb hbox hg
           refine hK.out _ _ ⟨gb194, (.pointer (some ⟨gb194, 0, none⟩)), (by rw [ha.out]; exact putSel_upk 5 hb_ rfl rfl rfl), (by (with_reducible repeat (first | apply Kd.R_alloc | apply Kd.R_drewN | apply Kd.R_drew)); exact HO_165000.out), (by (with_reducible repeat (first | refine blk_drewN ?_ _ | refine blk_drew ?_ | refine blk_alloc ?_ _)); exact BK159.out), (by (with_reducible repeat (first | refine blk_drewN ?_ _ | refine blk_drew ?_ | refine blk_alloc ?_ _)); exact BK160.out), (by (with_reducible repeat (first | refine blk_drewN ?_ _ | refine blk_drew ?_ | refine blk_alloc ?_ _)); exact BK164.out), (by (with_reducible repeat (first | refine blk_drewN ?_ _ | refine blk_drew ?_ | refine blk_alloc ?_ _)); exact BK165.out), (by (with_reducible repeat (first | refine blk_drewN ?_ _ | refine blk_drew ?_ | refine blk_alloc ?_ _)); exact BK166.out), (by repeat (first | (with_reducible first | exact HB.out | apply below_alloc | apply pw_below_drewN | apply below_drew1 | refine below_set ?_ GE159.out | refine below_set ?_ GE160.out | refine below_set ?_ GE164.out | refine below_set ?_ GE165.out | refine below_set ?_ GE166.out | refine below_set ?_ GE194.out) | exact HB.out)), fun _ _ => (by (with_reducible repeat (first | refine blk_drewN ?_ _ | refine blk_drew ?_ | refine blk_alloc ?_ _)); exact BK194.out), fun _ => GW194.out, fun _ => GE194.out, fun _ => NB159_194.out, fun _ => NB194_159.out, fun _ => NB160_194.out, fun _ => NB194_160.out, fun _ => NB164_194.out, fun _ => NB194_164.out, fun _ => NB165_194.out, fun _ => NB194_165.out, fun _ => NB166_194.out, fun _ => NB194_166.out, fun h0_ => absurd ((hoff 8 (by kernel_rfl)).symm.trans h0_) (by decide), fun _ => rfl⟩
          refine steps_cons ?_ ?_
          ·
           rintro b a w' ⟨gb194, m7_, ha, Q_HO_165000, Q_BK159, Q_BK160, Q_BK164, Q_BK165, Q_BK166, Q_HB, Q_BK194, Q_GW194, Q_GE194, Q_NB159_194, Q_NB194_159, Q_NB160_194, Q_NB194_160, Q_NB164_194, Q_NB194_164, Q_NB165_194, Q_NB194_165, Q_NB166_194, Q_NB194_166, Q_BK194_e8, Q_X7_⟩ hb_ hon hoff
           refine ⟨_, rfl, fun K hK => ?_⟩
           have e9 : a.tmps[9]? = some (m7_) := by rw [ha]; exact putSel_on (e := (7, 9, m7_)) 5 rfl rfl (hon 7 (by kernel_rfl)) rfl
           rw [Q_X7_ (hon 7 (by kernel_rfl))] at e9
           have e44 : a.tmps[44]? = some (.agg #[.int .u32 t186, .int .u32 t187, .int .u32 t188, .int .u32 t189, .int .u32 t190, .int .u32 t191, .int .u32 t192, .int .u32 t193]) := by rw [ha]; exact putSel_on (e := (6, 44, .agg #[.int .u32 t186, .int .u32 t187, .int .u32 t188, .int .u32 t189, .int .u32 t190, .int .u32 t191, .int .u32 t192, .int .u32 t193])) 4 rfl rfl (hon 6 (by kernel_rfl)) rfl
           replace ha := Aside0.mk ha
           have HO_165000 := Aside0.mk Q_HO_165000
           have BK159 := Aside0.mk Q_BK159
           have BK160 := Aside0.mk Q_BK160
           have BK164 := Aside0.mk Q_BK164
           have BK165 := Aside0.mk Q_BK165
           have BK166 := Aside0.mk Q_BK166
           have HB := Aside0.mk Q_HB
           have BK194 := Aside0.mk (Q_BK194 (hon 7 (by kernel_rfl)) hb_)
           have GW194 := Aside0.mk (Q_GW194 (hon 7 (by kernel_rfl)))
           have GE194 := Aside0.mk (Q_GE194 (hon 7 (by kernel_rfl)))
           have NB159_194 := Aside0.mk (Q_NB159_194 (hon 7 (by kernel_rfl)))
           have NB194_159 := Aside0.mk (Q_NB194_159 (hon 7 (by kernel_rfl)))
           have NB160_194 := Aside0.mk (Q_NB160_194 (hon 7 (by kernel_rfl)))
           have NB194_160 := Aside0.mk (Q_NB194_160 (hon 7 (by kernel_rfl)))
           have NB164_194 := Aside0.mk (Q_NB164_194 (hon 7 (by kernel_rfl)))
           have NB194_164 := Aside0.mk (Q_NB194_164 (hon 7 (by kernel_rfl)))
           have NB165_194 := Aside0.mk (Q_NB165_194 (hon 7 (by kernel_rfl)))
           have NB194_165 := Aside0.mk (Q_NB194_165 (hon 7 (by kernel_rfl)))
           have NB166_194 := Aside0.mk (Q_NB166_194 (hon 7 (by kernel_rfl)))
           have NB194_166 := Aside0.mk (Q_NB194_166 (hon 7 (by kernel_rfl)))
           have hs49 : w'.cell? ⟨gb194, 0, none⟩ = some (.int .u32 0) := (blk_cell BK194.out 0).trans rfl
           have hfs49 := blk_frozen BK194.out 0
           have hns49_0 := NB159_194.out
           have hns49_1 := NB160_194.out
           have hns49_2 := NB164_194.out
           have hns49_3 := NB165_194.out
           have hns49_4 := NB166_194.out
           have hms49_0 := NB194_159.out
           have hms49_1 := NB194_160.out
           have hms49_2 := NB194_164.out
           have hms49_3 := NB194_165.out
           have hms49_4 := NB194_166.out
           have hs50 : w'.cell? ⟨gb194, 1, none⟩ = some (.int .u32 0) := (blk_cell BK194.out 1).trans rfl
           have hfs50 := blk_frozen BK194.out 1
           have hns50_0 := NB159_194.out
           have hns50_1 := NB160_194.out
           have hns50_2 := NB164_194.out
           have hns50_3 := NB165_194.out
           have hns50_4 := NB166_194.out
           have hms50_0 := NB194_159.out
           have hms50_1 := NB194_160.out
           have hms50_2 := NB194_164.out
           have hms50_3 := NB194_165.out
           have hms50_4 := NB194_166.out
           have hs51 : w'.cell? ⟨gb194, 2, none⟩ = some (.int .u32 0) := (blk_cell BK194.out 2).trans rfl
           have hfs51 := blk_frozen BK194.out 2
           have hns51_0 := NB159_194.out
           have hns51_1 := NB160_194.out
           have hns51_2 := NB164_194.out
           have hns51_3 := NB165_194.out
           have hns51_4 := NB166_194.out
           have hms51_0 := NB194_159.out
           have hms51_1 := NB194_160.out
           have hms51_2 := NB194_164.out
           have hms51_3 := NB194_165.out
           have hms51_4 := NB194_166.out
           have hs52 : w'.cell? ⟨gb194, 3, none⟩ = some (.int .u32 0) := (blk_cell BK194.out 3).trans rfl
           have hfs52 := blk_frozen BK194.out 3
           have hns52_0 := NB159_194.out
           have hns52_1 := NB160_194.out
           have hns52_2 := NB164_194.out
           have hns52_3 := NB165_194.out
           have hns52_4 := NB166_194.out
           have hms52_0 := NB194_159.out
           have hms52_1 := NB194_160.out
           have hms52_2 := NB194_164.out
           have hms52_3 := NB194_165.out
           have hms52_4 := NB194_166.out
           have hs53 : w'.cell? ⟨gb194, 4, none⟩ = some (.int .u32 0) := (blk_cell BK194.out 4).trans rfl
           have hfs53 := blk_frozen BK194.out 4
           have hns53_0 := NB159_194.out
           have hns53_1 := NB160_194.out
           have hns53_2 := NB164_194.out
           have hns53_3 := NB165_194.out
           have hns53_4 := NB166_194.out
           have hms53_0 := NB194_159.out
           have hms53_1 := NB194_160.out
           have hms53_2 := NB194_164.out
           have hms53_3 := NB194_165.out
           have hms53_4 := NB194_166.out
           have hs54 : w'.cell? ⟨gb194, 5, none⟩ = some (.int .u32 0) := (blk_cell BK194.out 5).trans rfl
           have hfs54 := blk_frozen BK194.out 5
           have hns54_0 := NB159_194.out
           have hns54_1 := NB160_194.out
           have hns54_2 := NB164_194.out
           have hns54_3 := NB165_194.out
           have hns54_4 := NB166_194.out
           have hms54_0 := NB194_159.out
           have hms54_1 := NB194_160.out
           have hms54_2 := NB194_164.out
           have hms54_3 := NB194_165.out
           have hms54_4 := NB194_166.out
           have hs55 : w'.cell? ⟨gb194, 6, none⟩ = some (.int .u32 0) := (blk_cell BK194.out 6).trans rfl
           have hfs55 := blk_frozen BK194.out 6
           have hns55_0 := NB159_194.out
           have hns55_1 := NB160_194.out
           have hns55_2 := NB164_194.out
           have hns55_3 := NB165_194.out
           have hns55_4 := NB166_194.out
           have hms55_0 := NB194_159.out
           have hms55_1 := NB194_160.out
           have hms55_2 := NB194_164.out
           have hms55_3 := NB194_165.out
           have hms55_4 := NB194_166.out
           have hs56 : w'.cell? ⟨gb194, 7, none⟩ = some (.int .u32 0) := (blk_cell BK194.out 7).trans rfl
           have hfs56 := blk_frozen BK194.out 7
           have hns56_0 := NB159_194.out
           have hns56_1 := NB160_194.out
           have hns56_2 := NB164_194.out
           have hns56_3 := NB165_194.out
           have hns56_4 := NB166_194.out
           have hms56_0 := NB194_159.out
           have hms56_1 := NB194_160.out
           have hms56_2 := NB194_164.out
           have hms56_3 := NB194_165.out
           have hms56_4 := NB194_166.out
           refine skip_ (w1 := ?_) ?_ ?_ ?_ ?_
           rotate_left
           · rfl
           · rfl
           ·
             go_simp
             rfl
           refine hK.out _ _ ⟨gb194, m7_, (by rw [ha.out]; exact putSel_none (v := undef) rfl), (by (with_reducible repeat (first | apply Kd.R_alloc | apply Kd.R_drewN | apply Kd.R_drew)); exact Kd.R_mono (Kd.R_far (p := ⟨gb194, 7, none⟩) (Kd.R_far (p := ⟨gb194, 6, none⟩) (Kd.R_far (p := ⟨gb194, 5, none⟩) (Kd.R_far (p := ⟨gb194, 4, none⟩) (Kd.R_far (p := ⟨gb194, 3, none⟩) (Kd.R_far (p := ⟨gb194, 2, none⟩) (Kd.R_far (p := ⟨gb194, 1, none⟩) (Kd.R_far (p := ⟨gb194, 0, none⟩) (Kd.R_types HO_165000.out BK194.out (by decide)) (fun _ hk => hk.2) (.int .u32 t186)) (fun _ hk => hk.2) (.int .u32 t187)) (fun _ hk => hk.2) (.int .u32 t188)) (fun _ hk => hk.2) (.int .u32 t189)) (fun _ hk => hk.2) (.int .u32 t190)) (fun _ hk => hk.2) (.int .u32 t191)) (fun _ hk => hk.2) (.int .u32 t192)) (fun _ hk => hk.2) (.int .u32 t193)) (fun _ hk => trivial)), (by (repeat (first | (with_reducible first | refine blk_drewN ?_ _ | refine blk_drew ?_ | refine blk_alloc ?_ _) | refine blk_far ?_ NB159_194.out _)); (with_reducible repeat (first | refine blk_drewN ?_ _ | refine blk_drew ?_ | refine blk_alloc ?_ _)); exact BK159.out), (by (repeat (first | (with_reducible first | refine blk_drewN ?_ _ | refine blk_drew ?_ | refine blk_alloc ?_ _) | refine blk_far ?_ NB160_194.out _)); (with_reducible repeat (first | refine blk_drewN ?_ _ | refine blk_drew ?_ | refine blk_alloc ?_ _)); exact BK160.out), (by (repeat (first | (with_reducible first | refine blk_drewN ?_ _ | refine blk_drew ?_ | refine blk_alloc ?_ _) | refine blk_far ?_ NB164_194.out _)); (with_reducible repeat (first | refine blk_drewN ?_ _ | refine blk_drew ?_ | refine blk_alloc ?_ _)); exact BK164.out), (by (repeat (first | (with_reducible first | refine blk_drewN ?_ _ | refine blk_drew ?_ | refine blk_alloc ?_ _) | refine blk_far ?_ NB165_194.out _)); (with_reducible repeat (first | refine blk_drewN ?_ _ | refine blk_drew ?_ | refine blk_alloc ?_ _)); exact BK165.out), (by (repeat (first | (with_reducible first | refine blk_drewN ?_ _ | refine blk_drew ?_ | refine blk_alloc ?_ _) | refine blk_far ?_ NB166_194.out _)); (with_reducible repeat (first | refine blk_drewN ?_ _ | refine blk_drew ?_ | refine blk_alloc ?_ _)); exact BK166.out), (by repeat (first | (with_reducible first | exact HB.out | apply below_alloc | apply pw_below_drewN | apply below_drew1 | refine below_set ?_ GE159.out | refine below_set ?_ GE160.out | refine below_set ?_ GE164.out | refine below_set ?_ GE165.out | refine below_set ?_ GE166.out | refine below_set ?_ GE194.out) | exact HB.out)), fun _ h1_ => absurd ((up_self b 8).symm.trans h1_) (by decide), fun _ => GW194.out, fun _ => GE194.out, fun _ => NB159_194.out, fun _ => NB194_159.out, fun _ => NB160_194.out, fun _ => NB194_160.out, fun _ => NB164_194.out, fun _ => NB194_164.out, fun _ => NB165_194.out, fun _ => NB194_165.out, fun _ => NB166_194.out, fun _ => NB194_166.out, fun _ => (by (with_reducible repeat (first | refine blk_drewN ?_ _ | refine blk_drew ?_ | refine blk_alloc ?_ _)); refine blk_put (cs := #[.int .u32 t186, .int .u32 t187, .int .u32 t188, .int .u32 t189, .int .u32 t190, .int .u32 t191, .int .u32 t192, .int .u32 0]) ?_ 7 _ rfl; (with_reducible repeat (first | refine blk_drewN ?_ _ | refine blk_drew ?_ | refine blk_alloc ?_ _)); refine blk_put (cs := #[.int .u32 t186, .int .u32 t187, .int .u32 t188, .int .u32 t189, .int .u32 t190, .int .u32 t191, .int .u32 0, .int .u32 0]) ?_ 6 _ rfl; (with_reducible repeat (first | refine blk_drewN ?_ _ | refine blk_drew ?_ | refine blk_alloc ?_ _)); refine blk_put (cs := #[.int .u32 t186, .int .u32 t187, .int .u32 t188, .int .u32 t189, .int .u32 t190, .int .u32 0, .int .u32 0, .int .u32 0]) ?_ 5 _ rfl; (with_reducible repeat (first | refine blk_drewN ?_ _ | refine blk_drew ?_ | refine blk_alloc ?_ _)); refine blk_put (cs := #[.int .u32 t186, .int .u32 t187, .int .u32 t188, .int .u32 t189, .int .u32 0, .int .u32 0, .int .u32 0, .int .u32 0]) ?_ 4 _ rfl; (with_reducible repeat (first | refine blk_drewN ?_ _ | refine blk_drew ?_ | refine blk_alloc ?_ _)); refine blk_put (cs := #[.int .u32 t186, .int .u32 t187, .int .u32 t188, .int .u32 0, .int .u32 0, .int .u32 0, .int .u32 0, .int .u32 0]) ?_ 3 _ rfl; (with_reducible repeat (first | refine blk_drewN ?_ _ | refine blk_drew ?_ | refine blk_alloc ?_ _)); refine blk_put (cs := #[.int .u32 t186, .int .u32 t187, .int .u32 0, .int .u32 0, .int .u32 0, .int .u32 0, .int .u32 0, .int .u32 0]) ?_ 2 _ rfl; (with_reducible repeat (first | refine blk_drewN ?_ _ | refine blk_drew ?_ | refine blk_alloc ?_ _)); refine blk_put (cs := #[.int .u32 t186, .int .u32 0, .int .u32 0, .int .u32 0, .int .u32 0, .int .u32 0, .int .u32 0, .int .u32 0]) ?_ 1 _ rfl; (with_reducible repeat (first | refine blk_drewN ?_ _ | refine blk_drew ?_ | refine blk_alloc ?_ _)); refine blk_put (cs := #[.int .u32 0, .int .u32 0, .int .u32 0, .int .u32 0, .int .u32 0, .int .u32 0, .int .u32 0, .int .u32 0]) ?_ 0 _ rfl; (with_reducible repeat (first | refine blk_drewN ?_ _ | refine blk_drew ?_ | refine blk_alloc ?_ _)); exact BK194.out), Q_X7_⟩
          exact steps_nil
         rintro b a w56 hall ⟨gb194, m7_, ha, Q_HO_165000, Q_BK159, Q_BK160, Q_BK164, Q_BK165, Q_BK166, Q_HB, Q_BK194, Q_GW194, Q_GE194, Q_NB159_194, Q_NB194_159, Q_NB160_194, Q_NB194_160, Q_NB164_194, Q_NB194_164, Q_NB165_194, Q_NB194_165, Q_NB166_194, Q_NB194_166, Q_BK194_e8, Q_X7_⟩
         clear BK159 BK160 BK164 BK165 BK166 HB HO_165000
         have hb0_ := hall 0 (by kernel_rfl)
         have hb3_ := hall 3 (by kernel_rfl)
         have hb4_ := hall 4 (by kernel_rfl)
         have hb5_ := hall 5 (by kernel_rfl)
         have hb6_ := hall 6 (by kernel_rfl)
         have hb7_ := hall 7 (by kernel_rfl)
         have hb8_ := hall 8 (by kernel_rfl)
         subst ha
         obtain rfl := Q_X7_ hb7_
         simp only [putSel, hb0_, hb3_, hb4_, hb5_, hb6_, hb7_, hb8_, if_true, Act.put, List.setIfInBounds_toArray, List.set_cons_zero, List.set_cons_succ]
         have HO_165000 := Aside0.mk Q_HO_165000
         clear Q_HO_165000
         have BK159 := Aside0.mk Q_BK159
         clear Q_BK159
         have BK160 := Aside0.mk Q_BK160
         clear Q_BK160
         have BK164 := Aside0.mk Q_BK164
         clear Q_BK164
         have BK165 := Aside0.mk Q_BK165
         clear Q_BK165
         have BK166 := Aside0.mk Q_BK166
         clear Q_BK166
         have HB := Aside0.mk Q_HB
         clear Q_HB
         clear Q_BK194
         have GW194 := Aside0.mk (Q_GW194 hb7_)
         clear Q_GW194
         have GE194 := Aside0.mk (Q_GE194 hb7_)
         clear Q_GE194
         have NB159_194 := Aside0.mk (Q_NB159_194 hb7_)
         clear Q_NB159_194
         have NB194_159 := Aside0.mk (Q_NB194_159 hb7_)
         clear Q_NB194_159
         have NB160_194 := Aside0.mk (Q_NB160_194 hb7_)
         clear Q_NB160_194
         have NB194_160 := Aside0.mk (Q_NB194_160 hb7_)
         clear Q_NB194_160
         have NB164_194 := Aside0.mk (Q_NB164_194 hb7_)
         clear Q_NB164_194
         have NB194_164 := Aside0.mk (Q_NB194_164 hb7_)
         clear Q_NB194_164
         have NB165_194 := Aside0.mk (Q_NB165_194 hb7_)
         clear Q_NB165_194
         have NB194_165 := Aside0.mk (Q_NB194_165 hb7_)
         clear Q_NB194_165
         have NB166_194 := Aside0.mk (Q_NB166_194 hb7_)
         clear Q_NB166_194
         have NB194_166 := Aside0.mk (Q_NB194_166 hb7_)
         clear Q_NB194_166
         have BK194 := Aside0.mk (Q_BK194_e8 hb8_)
         clear Q_BK194_e8
         clear hall hb0_ hb3_ hb4_ hb5_ hb6_ hb7_ hb8_
         try go_wp2
         have n0_ := Aside0.mk (Kd.R_drew HO_165000.out)
         have n1_ := Aside0.mk (blk_drew BK159.out)
         have n2_ := Aside0.mk (blk_drew BK160.out)
         have n3_ := Aside0.mk (blk_drew BK164.out)
         have n4_ := Aside0.mk (blk_drew BK165.out)
         have n5_ := Aside0.mk (blk_drew BK166.out)
         have n6_ := Aside0.mk (blk_drew BK194.out)
         have n7_ := Aside0.mk (below_drew1 HB.out)
         clear HO_165000
         clear BK159
         clear BK160
         clear BK164
         clear BK165
         clear BK166
         clear BK194
         clear HB
         have HO_165000 := n0_
         have BK159 := n1_
         have BK160 := n2_
         have BK164 := n3_
         have BK165 := n4_
         have BK166 := n5_
         have BK194 := n6_
         have HB := n7_
         clear n0_ n1_ n2_ n3_ n4_ n5_ n6_ n7_
         refine start_ (n := 10) (S := fun w' => w'.cell? ⟨gb165, 0, none⟩ = some (.int .u32 x166000_1) ∧ w'.cell? ⟨gb165, 1, none⟩ = some (.int .u32 x166001_1) ∧ w'.cell? ⟨gb165, 2, none⟩ = some (.int .u32 x166002_1) ∧ w'.cell? ⟨gb165, 3, none⟩ = some (.int .u32 x166003_1) ∧ w'.cell? ⟨gb165, 4, none⟩ = some (.int .u32 x166004_1) ∧ w'.cell? ⟨gb165, 5, none⟩ = some (.int .u32 x166005_1) ∧ w'.cell? ⟨gb165, 6, none⟩ = some (.int .u32 x166006_1) ∧ w'.cell? ⟨gb165, 7, none⟩ = some (.int .u32 x166007_1) ∧ w'.cell? ⟨gb194, 0, none⟩ = some (.int .u32 t186) ∧ w'.cell? ⟨gb194, 1, none⟩ = some (.int .u32 t187) ∧ w'.cell? ⟨gb194, 2, none⟩ = some (.int .u32 t188) ∧ w'.cell? ⟨gb194, 3, none⟩ = some (.int .u32 t189) ∧ w'.cell? ⟨gb194, 4, none⟩ = some (.int .u32 t190) ∧ w'.cell? ⟨gb194, 5, none⟩ = some (.int .u32 t191) ∧ w'.cell? ⟨gb194, 6, none⟩ = some (.int .u32 t192) ∧ w'.cell? ⟨gb194, 7, none⟩ = some (.int .u32 t193) ∧ w'.cell? ⟨gb166, 0, none⟩ = some (.int .u32 x167000_1) ∧ w'.cell? ⟨gb166, 1, none⟩ = some (.int .u32 x167001_1) ∧ w'.cell? ⟨gb166, 2, none⟩ = some (.int .u32 x167002_1) ∧ w'.cell? ⟨gb166, 3, none⟩ = some (.int .u32 x167003_1) ∧ w'.cell? ⟨gb166, 4, none⟩ = some (.int .u32 x167004_1) ∧ w'.cell? ⟨gb166, 5, none⟩ = some (.int .u32 x167005_1) ∧ w'.cell? ⟨gb166, 6, none⟩ = some (.int .u32 x167006_1) ∧ w'.cell? ⟨gb166, 7, none⟩ = some (.int .u32 x167007_1)) (ds := [8, 9]) #[F, F, F, F, F, F, F, F, F, F] (by kernel_rfl) rfl rfl ⟨(blk_cell BK165.out 0).trans rfl, (blk_cell BK165.out 1).trans rfl, (blk_cell BK165.out 2).trans rfl, (blk_cell BK165.out 3).trans rfl, (blk_cell BK165.out 4).trans rfl, (blk_cell BK165.out 5).trans rfl, (blk_cell BK165.out 6).trans rfl, (blk_cell BK165.out 7).trans rfl, (blk_cell BK194.out 0).trans rfl, (blk_cell BK194.out 1).trans rfl, (blk_cell BK194.out 2).trans rfl, (blk_cell BK194.out 3).trans rfl, (blk_cell BK194.out 4).trans rfl, (blk_cell BK194.out 5).trans rfl, (blk_cell BK194.out 6).trans rfl, (blk_cell BK194.out 7).trans rfl, (blk_cell BK166.out 0).trans rfl, (blk_cell BK166.out 1).trans rfl, (blk_cell BK166.out 2).trans rfl, (blk_cell BK166.out 3).trans rfl, (blk_cell BK166.out 4).trans rfl, (blk_cell BK166.out 5).trans rfl, (blk_cell BK166.out 6).trans rfl, (blk_cell BK166.out 7).trans rfl⟩ (fun hHeld => ?_); refine with_tabW offertoryref09_Stats.tab8 offertoryref09_Stats.bits8 (fun HT_ HW_ => ?_)
         generalize w56.drew = w57 at HO_165000 BK159 BK160 BK164 BK165 BK166 BK194 HB hHeld ⊢
         refine take_ (i := 0) (N := some 45) (v := ?_) (a' := ?_) #[T, F, F, F, F, F, F, F, F, F] rfl rfl (take_ofW HT_.out HW_.out (by kernel_rfl)) (fun _ _ _ h => h) (Or.inl ⟨by rfl, ?_⟩) hHeld ?_ ?_
         rotate_left
         ·
          rintro w' ⟨s0, s1, s2, s3, s4, s5, s6, s7, s8, s9, s10, s11, s12, s13, s14, s15, s16, s17, s18, s19, s20, s21, s22, s23⟩
          (try simp only [add_plain] at s0 s1 s2 s3 s4 s5 s6 s7 s8 s9 s10 s11 s12 s13 s14 s15 s16 s17 s18 s19 s20 s21 s22 s23)
          go_simp
          with_reducible rfl
         rotate_left
         ·
          simp only [Act.put, List.setIfInBounds_toArray, List.set_cons_zero, List.set_cons_succ, i64_w, i32_w]
          rfl
         refine take_ (i := 1) (N := some 46) (v := ?_) (a' := ?_) #[T, T, F, F, F, F, F, F, F, F] rfl rfl (take_ofW HT_.out HW_.out (by kernel_rfl)) (fun _ _ _ h => h) (Or.inl ⟨by rfl, ?_⟩) hHeld ?_ ?_
         rotate_left
         ·
          rintro w' ⟨s0, s1, s2, s3, s4, s5, s6, s7, s8, s9, s10, s11, s12, s13, s14, s15, s16, s17, s18, s19, s20, s21, s22, s23⟩
          (try simp only [add_plain] at s0 s1 s2 s3 s4 s5 s6 s7 s8 s9 s10 s11 s12 s13 s14 s15 s16 s17 s18 s19 s20 s21 s22 s23)
          go_simp
          with_reducible rfl
         rotate_left
         ·
          simp only [Act.put, List.setIfInBounds_toArray, List.set_cons_zero, List.set_cons_succ, i64_w, i32_w]
          rfl
         refine take_ (i := 3) (N := some 48) (v := ?_) (a' := ?_) #[T, T, F, T, F, F, F, F, F, F] rfl rfl (take_ofW HT_.out HW_.out (by kernel_rfl)) (fun _ _ _ h => h) (Or.inl ⟨by rfl, ?_⟩) hHeld ?_ ?_
         rotate_left
         ·
          rintro w' ⟨s0, s1, s2, s3, s4, s5, s6, s7, s8, s9, s10, s11, s12, s13, s14, s15, s16, s17, s18, s19, s20, s21, s22, s23⟩
          (try simp only [add_plain] at s0 s1 s2 s3 s4 s5 s6 s7 s8 s9 s10 s11 s12 s13 s14 s15 s16 s17 s18 s19 s20 s21 s22 s23)
          go_simp
          with_reducible rfl
         rotate_left
         ·
          simp only [Act.put, List.setIfInBounds_toArray, List.set_cons_zero, List.set_cons_succ, i64_w, i32_w]
          rfl
         refine take_ (i := 4) (N := some 49) (v := ?_) (a' := ?_) #[T, T, F, T, T, F, F, F, F, F] rfl rfl (take_ofW HT_.out HW_.out (by kernel_rfl)) (fun _ _ _ h => h) (Or.inl ⟨by rfl, ?_⟩) hHeld ?_ ?_
         rotate_left
         ·
          rintro w' ⟨s0, s1, s2, s3, s4, s5, s6, s7, s8, s9, s10, s11, s12, s13, s14, s15, s16, s17, s18, s19, s20, s21, s22, s23⟩
          (try simp only [add_plain] at s0 s1 s2 s3 s4 s5 s6 s7 s8 s9 s10 s11 s12 s13 s14 s15 s16 s17 s18 s19 s20 s21 s22 s23)
          go_simp
          with_reducible rfl
         rotate_left
         ·
          simp only [Act.put, List.setIfInBounds_toArray, List.set_cons_zero, List.set_cons_succ, i64_w, i32_w]
          rfl
         refine take_ (i := 5) (N := some 50) (v := ?_) (a' := ?_) #[T, T, F, T, T, T, F, F, F, F] rfl rfl (take_ofW HT_.out HW_.out (by kernel_rfl)) (fun _ _ _ h => h) (Or.inl ⟨by rfl, ?_⟩) hHeld ?_ ?_
         rotate_left
         ·
          rintro w' ⟨s0, s1, s2, s3, s4, s5, s6, s7, s8, s9, s10, s11, s12, s13, s14, s15, s16, s17, s18, s19, s20, s21, s22, s23⟩
          (try simp only [add_plain] at s0 s1 s2 s3 s4 s5 s6 s7 s8 s9 s10 s11 s12 s13 s14 s15 s16 s17 s18 s19 s20 s21 s22 s23)
          go_simp
          with_reducible rfl
         rotate_left
         ·
          simp only [Act.put, List.setIfInBounds_toArray, List.set_cons_zero, List.set_cons_succ, i64_w, i32_w]
          rfl
         refine one_ (i := 2) (N := some 47) #[T, T, T, T, T, T, F, F, F, F] rfl rfl (one_of HT_.out (by kernel_rfl)) (by decide) (fun K hK => ?_)
         refine goes_ Try.func16 (by kernel_rfl) rfl #[.agg #[.int .u32 x166000_1, .int .u32 x166001_1, .int .u32 x166002_1, .int .u32 x166003_1, .int .u32 x166004_1, .int .u32 x166005_1, .int .u32 x166006_1, .int .u32 x166007_1], .agg #[.int .u32 t186, .int .u32 t187, .int .u32 t188, .int .u32 t189, .int .u32 t190, .int .u32 t191, .int .u32 t192, .int .u32 t193]] (by rfl) rfl rfl (by (try simp only [List.map_toArray, List.map_cons, List.map_nil]); first | done | rfl | (simp only [List.length_drop, List.length_take]; rfl)) ?_
         with_reducible refine (offertoryref09_Add.calls x166000_1 x166001_1 x166002_1 x166003_1 x166004_1 x166005_1 x166006_1 x166007_1 t186 t187 t188 t189 t190 t191 t192 t193 t195 t196 t197 t198 t199 t200 t201 t202 _ A36.out).mono ?_
         rintro e w58 ⟨rfl, hb⟩
         refine ⟨_, rfl, ?_⟩
         have n0_ := Aside0.mk (Kd.R_below (by (with_reducible repeat (first | apply Kd.R_alloc | apply Kd.R_drewN | apply Kd.R_drew)); exact HO_165000.out) hb)
         have n1_ := offertoryref09_Stats.keepB BK159 hb
         have n2_ := offertoryref09_Stats.keepB BK160 hb
         have n3_ := offertoryref09_Stats.keepB BK164 hb
         have n4_ := offertoryref09_Stats.keepB BK165 hb
         have n5_ := offertoryref09_Stats.keepB BK166 hb
         have n6_ := offertoryref09_Stats.keepB BK194 hb
         have n7_ := Aside0.mk (below_step (by repeat (first | (with_reducible first | exact HB.out | apply below_alloc | apply pw_below_drewN | apply below_drew1 | refine below_set ?_ GE159.out | refine below_set ?_ GE160.out | refine below_set ?_ GE164.out | refine below_set ?_ GE165.out | refine below_set ?_ GE166.out | refine below_set ?_ GE194.out) | exact HB.out)) hb)
         clear HO_165000
         clear BK159
         clear BK160
         clear BK164
         clear BK165
         clear BK166
         clear BK194
         clear HB
         have HO_165000 := n0_
         have BK159 := n1_
         have BK160 := n2_
         have BK164 := n3_
         have BK165 := n4_
         have BK166 := n5_
         have BK194 := n6_
         have HB := n7_
         clear n0_ n1_ n2_ n3_ n4_ n5_ n6_ n7_
         (try clear hb)
         (try clear hb2)
         (try clear hk)
         (try clear hi)
         refine hK.out _ _ ⟨(blk_cell BK165.out 0).trans rfl, (blk_cell BK165.out 1).trans rfl, (blk_cell BK165.out 2).trans rfl, (blk_cell BK165.out 3).trans rfl, (blk_cell BK165.out 4).trans rfl, (blk_cell BK165.out 5).trans rfl, (blk_cell BK165.out 6).trans rfl, (blk_cell BK165.out 7).trans rfl, (blk_cell BK194.out 0).trans rfl, (blk_cell BK194.out 1).trans rfl, (blk_cell BK194.out 2).trans rfl, (blk_cell BK194.out 3).trans rfl, (blk_cell BK194.out 4).trans rfl, (blk_cell BK194.out 5).trans rfl, (blk_cell BK194.out 6).trans rfl, (blk_cell BK194.out 7).trans rfl, (blk_cell BK166.out 0).trans rfl, (blk_cell BK166.out 1).trans rfl, (blk_cell BK166.out 2).trans rfl, (blk_cell BK166.out 3).trans rfl, (blk_cell BK166.out 4).trans rfl, (blk_cell BK166.out 5).trans rfl, (blk_cell BK166.out 6).trans rfl, (blk_cell BK166.out 7).trans rfl⟩ (fun hHeld => ?_)
         clear hK K
         refine norm_ (a' := ?_) ?_ ?_
         rotate_left
         ·
          show Act.put _ (some 47) _ = _
          simp only [Act.put, List.setIfInBounds_toArray, List.set_cons_zero, List.set_cons_succ, i64_w, i32_w]
          rfl
         refine one_ (i := 6) (N := some 51) #[T, T, T, T, T, T, T, F, F, F] rfl rfl (one_of HT_.out (by kernel_rfl)) (by decide) (fun K hK => ?_)
         refine goes_ Try.func17 (by kernel_rfl) rfl #[.agg #[.int .u32 t186, .int .u32 t187, .int .u32 t188, .int .u32 t189, .int .u32 t190, .int .u32 t191, .int .u32 t192, .int .u32 t193], .agg #[.int .u32 t186, .int .u32 t187, .int .u32 t188, .int .u32 t189, .int .u32 t190, .int .u32 t191, .int .u32 t192, .int .u32 t193]] (by rfl) rfl rfl (by (try simp only [List.map_toArray, List.map_cons, List.map_nil]); first | done | rfl | (simp only [List.length_drop, List.length_take]; rfl)) ?_
         with_reducible refine (offertoryref09_Mul.calls t186 t187 t188 t189 t190 t191 t192 t193 t186 t187 t188 t189 t190 t191 t192 t193 t203 t204 t205 t206 t207 t208 t209 t210 _ A37.out).mono ?_
         rintro e w59 ⟨rfl, hb⟩
         refine ⟨_, rfl, ?_⟩
         have n0_ := Aside0.mk (Kd.R_below (by (with_reducible repeat (first | apply Kd.R_alloc | apply Kd.R_drewN | apply Kd.R_drew)); exact HO_165000.out) hb)
         have n1_ := offertoryref09_Stats.keepB BK159 hb
         have n2_ := offertoryref09_Stats.keepB BK160 hb
         have n3_ := offertoryref09_Stats.keepB BK164 hb
         have n4_ := offertoryref09_Stats.keepB BK165 hb
         have n5_ := offertoryref09_Stats.keepB BK166 hb
         have n6_ := offertoryref09_Stats.keepB BK194 hb
         have n7_ := Aside0.mk (below_step (by repeat (first | (with_reducible first | exact HB.out | apply below_alloc | apply pw_below_drewN | apply below_drew1 | refine below_set ?_ GE159.out | refine below_set ?_ GE160.out | refine below_set ?_ GE164.out | refine below_set ?_ GE165.out | refine below_set ?_ GE166.out | refine below_set ?_ GE194.out) | exact HB.out)) hb)
         clear HO_165000
         clear BK159
         clear BK160
         clear BK164
         clear BK165
         clear BK166
         clear BK194
         clear HB
         have HO_165000 := n0_
         have BK159 := n1_
         have BK160 := n2_
         have BK164 := n3_
         have BK165 := n4_
         have BK166 := n5_
         have BK194 := n6_
         have HB := n7_
         clear n0_ n1_ n2_ n3_ n4_ n5_ n6_ n7_
         (try clear hb)
         (try clear hb2)
         (try clear hk)
         (try clear hi)
         refine hK.out _ _ ⟨(blk_cell BK165.out 0).trans rfl, (blk_cell BK165.out 1).trans rfl, (blk_cell BK165.out 2).trans rfl, (blk_cell BK165.out 3).trans rfl, (blk_cell BK165.out 4).trans rfl, (blk_cell BK165.out 5).trans rfl, (blk_cell BK165.out 6).trans rfl, (blk_cell BK165.out 7).trans rfl, (blk_cell BK194.out 0).trans rfl, (blk_cell BK194.out 1).trans rfl, (blk_cell BK194.out 2).trans rfl, (blk_cell BK194.out 3).trans rfl, (blk_cell BK194.out 4).trans rfl, (blk_cell BK194.out 5).trans rfl, (blk_cell BK194.out 6).trans rfl, (blk_cell BK194.out 7).trans rfl, (blk_cell BK166.out 0).trans rfl, (blk_cell BK166.out 1).trans rfl, (blk_cell BK166.out 2).trans rfl, (blk_cell BK166.out 3).trans rfl, (blk_cell BK166.out 4).trans rfl, (blk_cell BK166.out 5).trans rfl, (blk_cell BK166.out 6).trans rfl, (blk_cell BK166.out 7).trans rfl⟩ (fun hHeld => ?_)
         clear hK K
         refine norm_ (a' := ?_) ?_ ?_
         rotate_left
         ·
          show Act.put _ (some 51) _ = _
          simp only [Act.put, List.setIfInBounds_toArray, List.set_cons_zero, List.set_cons_succ, i64_w, i32_w]
          rfl
         refine one_ (i := 7) (N := some 52) #[T, T, T, T, T, T, T, T, F, F] rfl rfl (one_of HT_.out (by kernel_rfl)) (by decide) (fun K hK => ?_)
         refine goes_ Try.func16 (by kernel_rfl) rfl #[.agg #[.int .u32 x167000_1, .int .u32 x167001_1, .int .u32 x167002_1, .int .u32 x167003_1, .int .u32 x167004_1, .int .u32 x167005_1, .int .u32 x167006_1, .int .u32 x167007_1], .agg #[.int .u32 t203, .int .u32 t204, .int .u32 t205, .int .u32 t206, .int .u32 t207, .int .u32 t208, .int .u32 t209, .int .u32 t210]] (by rfl) rfl rfl (by (try simp only [List.map_toArray, List.map_cons, List.map_nil]); first | done | rfl | (simp only [List.length_drop, List.length_take]; rfl)) ?_
         with_reducible refine (offertoryref09_Add.calls x167000_1 x167001_1 x167002_1 x167003_1 x167004_1 x167005_1 x167006_1 x167007_1 t203 t204 t205 t206 t207 t208 t209 t210 t211 t212 t213 t214 t215 t216 t217 t218 _ A38.out).mono ?_
         rintro e w60 ⟨rfl, hb⟩
         refine ⟨_, rfl, ?_⟩
         have n0_ := Aside0.mk (Kd.R_below (by (with_reducible repeat (first | apply Kd.R_alloc | apply Kd.R_drewN | apply Kd.R_drew)); exact HO_165000.out) hb)
         have n1_ := offertoryref09_Stats.keepB BK159 hb
         have n2_ := offertoryref09_Stats.keepB BK160 hb
         have n3_ := offertoryref09_Stats.keepB BK164 hb
         have n4_ := offertoryref09_Stats.keepB BK165 hb
         have n5_ := offertoryref09_Stats.keepB BK166 hb
         have n6_ := offertoryref09_Stats.keepB BK194 hb
         have n7_ := Aside0.mk (below_step (by repeat (first | (with_reducible first | exact HB.out | apply below_alloc | apply pw_below_drewN | apply below_drew1 | refine below_set ?_ GE159.out | refine below_set ?_ GE160.out | refine below_set ?_ GE164.out | refine below_set ?_ GE165.out | refine below_set ?_ GE166.out | refine below_set ?_ GE194.out) | exact HB.out)) hb)
         clear HO_165000
         clear BK159
         clear BK160
         clear BK164
         clear BK165
         clear BK166
         clear BK194
         clear HB
         have HO_165000 := n0_
         have BK159 := n1_
         have BK160 := n2_
         have BK164 := n3_
         have BK165 := n4_
         have BK166 := n5_
         have BK194 := n6_
         have HB := n7_
         clear n0_ n1_ n2_ n3_ n4_ n5_ n6_ n7_
         (try clear hb)
         (try clear hb2)
         (try clear hk)
         (try clear hi)
         refine hK.out _ _ ⟨(blk_cell BK165.out 0).trans rfl, (blk_cell BK165.out 1).trans rfl, (blk_cell BK165.out 2).trans rfl, (blk_cell BK165.out 3).trans rfl, (blk_cell BK165.out 4).trans rfl, (blk_cell BK165.out 5).trans rfl, (blk_cell BK165.out 6).trans rfl, (blk_cell BK165.out 7).trans rfl, (blk_cell BK194.out 0).trans rfl, (blk_cell BK194.out 1).trans rfl, (blk_cell BK194.out 2).trans rfl, (blk_cell BK194.out 3).trans rfl, (blk_cell BK194.out 4).trans rfl, (blk_cell BK194.out 5).trans rfl, (blk_cell BK194.out 6).trans rfl, (blk_cell BK194.out 7).trans rfl, (blk_cell BK166.out 0).trans rfl, (blk_cell BK166.out 1).trans rfl, (blk_cell BK166.out 2).trans rfl, (blk_cell BK166.out 3).trans rfl, (blk_cell BK166.out 4).trans rfl, (blk_cell BK166.out 5).trans rfl, (blk_cell BK166.out 6).trans rfl, (blk_cell BK166.out 7).trans rfl⟩ (fun hHeld => ?_)
         clear hK K
         refine norm_ (a' := ?_) ?_ ?_
         rotate_left
         ·
          show Act.put _ (some 52) _ = _
          simp only [Act.put, List.setIfInBounds_toArray, List.set_cons_zero, List.set_cons_succ, i64_w, i32_w]
          rfl
         refine last_ (i := 8) (N := none) #[T, T, T, T, T, T, T, T, T, F] rfl rfl (one_of HT_.out (by kernel_rfl)) (by decide) (fun K hK => ?_)
         have hs61 : w60.cell? ⟨gb165, 0, none⟩ = some (.int .u32 x166000_1) := (blk_cell BK165.out 0).trans rfl
         have hfs61 := blk_frozen BK165.out 0
         have hns61_0 := NB159_165.out
         have hns61_1 := NB160_165.out
         have hns61_2 := NB164_165.out
         have hns61_4 := NB166_165.out
         have hns61_5 := NB194_165.out
         have hms61_0 := NB165_159.out
         have hms61_1 := NB165_160.out
         have hms61_2 := NB165_164.out
         have hms61_4 := NB165_166.out
         have hms61_5 := NB165_194.out
         have hs62 : w60.cell? ⟨gb165, 1, none⟩ = some (.int .u32 x166001_1) := (blk_cell BK165.out 1).trans rfl
         have hfs62 := blk_frozen BK165.out 1
         have hns62_0 := NB159_165.out
         have hns62_1 := NB160_165.out
         have hns62_2 := NB164_165.out
         have hns62_4 := NB166_165.out
         have hns62_5 := NB194_165.out
         have hms62_0 := NB165_159.out
         have hms62_1 := NB165_160.out
         have hms62_2 := NB165_164.out
         have hms62_4 := NB165_166.out
         have hms62_5 := NB165_194.out
         have hs63 : w60.cell? ⟨gb165, 2, none⟩ = some (.int .u32 x166002_1) := (blk_cell BK165.out 2).trans rfl
         have hfs63 := blk_frozen BK165.out 2
         have hns63_0 := NB159_165.out
         have hns63_1 := NB160_165.out
         have hns63_2 := NB164_165.out
         have hns63_4 := NB166_165.out
         have hns63_5 := NB194_165.out
         have hms63_0 := NB165_159.out
         have hms63_1 := NB165_160.out
         have hms63_2 := NB165_164.out
         have hms63_4 := NB165_166.out
         have hms63_5 := NB165_194.out
         have hs64 : w60.cell? ⟨gb165, 3, none⟩ = some (.int .u32 x166003_1) := (blk_cell BK165.out 3).trans rfl
         have hfs64 := blk_frozen BK165.out 3
         have hns64_0 := NB159_165.out
         have hns64_1 := NB160_165.out
         have hns64_2 := NB164_165.out
         have hns64_4 := NB166_165.out
         have hns64_5 := NB194_165.out
         have hms64_0 := NB165_159.out
         have hms64_1 := NB165_160.out
         have hms64_2 := NB165_164.out
         have hms64_4 := NB165_166.out
         have hms64_5 := NB165_194.out
         have hs65 : w60.cell? ⟨gb165, 4, none⟩ = some (.int .u32 x166004_1) := (blk_cell BK165.out 4).trans rfl
         have hfs65 := blk_frozen BK165.out 4
         have hns65_0 := NB159_165.out
         have hns65_1 := NB160_165.out
         have hns65_2 := NB164_165.out
         have hns65_4 := NB166_165.out
         have hns65_5 := NB194_165.out
         have hms65_0 := NB165_159.out
         have hms65_1 := NB165_160.out
         have hms65_2 := NB165_164.out
         have hms65_4 := NB165_166.out
         have hms65_5 := NB165_194.out
         have hs66 : w60.cell? ⟨gb165, 5, none⟩ = some (.int .u32 x166005_1) := (blk_cell BK165.out 5).trans rfl
         have hfs66 := blk_frozen BK165.out 5
         have hns66_0 := NB159_165.out
         have hns66_1 := NB160_165.out
         have hns66_2 := NB164_165.out
         have hns66_4 := NB166_165.out
         have hns66_5 := NB194_165.out
         have hms66_0 := NB165_159.out
         have hms66_1 := NB165_160.out
         have hms66_2 := NB165_164.out
         have hms66_4 := NB165_166.out
         have hms66_5 := NB165_194.out
         have hs67 : w60.cell? ⟨gb165, 6, none⟩ = some (.int .u32 x166006_1) := (blk_cell BK165.out 6).trans rfl
         have hfs67 := blk_frozen BK165.out 6
         have hns67_0 := NB159_165.out
         have hns67_1 := NB160_165.out
         have hns67_2 := NB164_165.out
         have hns67_4 := NB166_165.out
         have hns67_5 := NB194_165.out
         have hms67_0 := NB165_159.out
         have hms67_1 := NB165_160.out
         have hms67_2 := NB165_164.out
         have hms67_4 := NB165_166.out
         have hms67_5 := NB165_194.out
         have hs68 : w60.cell? ⟨gb165, 7, none⟩ = some (.int .u32 x166007_1) := (blk_cell BK165.out 7).trans rfl
         have hfs68 := blk_frozen BK165.out 7
         have hns68_0 := NB159_165.out
         have hns68_1 := NB160_165.out
         have hns68_2 := NB164_165.out
         have hns68_4 := NB166_165.out
         have hns68_5 := NB194_165.out
         have hms68_0 := NB165_159.out
         have hms68_1 := NB165_160.out
         have hms68_2 := NB165_164.out
         have hms68_4 := NB165_166.out
         have hms68_5 := NB165_194.out
         refine skip_ (w1 := ?_) ?_ ?_ ?_ ?_
         rotate_left
         · rfl
         · rfl
         ·
           go_simp
           rfl
         refine hK.out _ _ ?_
         clear hK K
         refine last_ (i := 9) (N := none) #[T, T, T, T, T, T, T, T, T, T] rfl rfl (one_of HT_.out (by kernel_rfl)) (by decide) (fun K hK => ?_)
         have hs69 : w60.cell? ⟨gb166, 0, none⟩ = some (.int .u32 x167000_1) := (blk_cell BK166.out 0).trans rfl
         have hfs69 := blk_frozen BK166.out 0
         have hns69_0 := NB159_166.out
         have hns69_1 := NB160_166.out
         have hns69_2 := NB164_166.out
         have hns69_3 := NB165_166.out
         have hns69_5 := NB194_166.out
         have hms69_0 := NB166_159.out
         have hms69_1 := NB166_160.out
         have hms69_2 := NB166_164.out
         have hms69_3 := NB166_165.out
         have hms69_5 := NB166_194.out
         have hs70 : w60.cell? ⟨gb166, 1, none⟩ = some (.int .u32 x167001_1) := (blk_cell BK166.out 1).trans rfl
         have hfs70 := blk_frozen BK166.out 1
         have hns70_0 := NB159_166.out
         have hns70_1 := NB160_166.out
         have hns70_2 := NB164_166.out
         have hns70_3 := NB165_166.out
         have hns70_5 := NB194_166.out
         have hms70_0 := NB166_159.out
         have hms70_1 := NB166_160.out
         have hms70_2 := NB166_164.out
         have hms70_3 := NB166_165.out
         have hms70_5 := NB166_194.out
         have hs71 : w60.cell? ⟨gb166, 2, none⟩ = some (.int .u32 x167002_1) := (blk_cell BK166.out 2).trans rfl
         have hfs71 := blk_frozen BK166.out 2
         have hns71_0 := NB159_166.out
         have hns71_1 := NB160_166.out
         have hns71_2 := NB164_166.out
         have hns71_3 := NB165_166.out
         have hns71_5 := NB194_166.out
         have hms71_0 := NB166_159.out
         have hms71_1 := NB166_160.out
         have hms71_2 := NB166_164.out
         have hms71_3 := NB166_165.out
         have hms71_5 := NB166_194.out
         have hs72 : w60.cell? ⟨gb166, 3, none⟩ = some (.int .u32 x167003_1) := (blk_cell BK166.out 3).trans rfl
         have hfs72 := blk_frozen BK166.out 3
         have hns72_0 := NB159_166.out
         have hns72_1 := NB160_166.out
         have hns72_2 := NB164_166.out
         have hns72_3 := NB165_166.out
         have hns72_5 := NB194_166.out
         have hms72_0 := NB166_159.out
         have hms72_1 := NB166_160.out
         have hms72_2 := NB166_164.out
         have hms72_3 := NB166_165.out
         have hms72_5 := NB166_194.out
         have hs73 : w60.cell? ⟨gb166, 4, none⟩ = some (.int .u32 x167004_1) := (blk_cell BK166.out 4).trans rfl
         have hfs73 := blk_frozen BK166.out 4
         have hns73_0 := NB159_166.out
         have hns73_1 := NB160_166.out
         have hns73_2 := NB164_166.out
         have hns73_3 := NB165_166.out
         have hns73_5 := NB194_166.out
         have hms73_0 := NB166_159.out
         have hms73_1 := NB166_160.out
         have hms73_2 := NB166_164.out
         have hms73_3 := NB166_165.out
         have hms73_5 := NB166_194.out
         have hs74 : w60.cell? ⟨gb166, 5, none⟩ = some (.int .u32 x167005_1) := (blk_cell BK166.out 5).trans rfl
         have hfs74 := blk_frozen BK166.out 5
         have hns74_0 := NB159_166.out
         have hns74_1 := NB160_166.out
         have hns74_2 := NB164_166.out
         have hns74_3 := NB165_166.out
         have hns74_5 := NB194_166.out
         have hms74_0 := NB166_159.out
         have hms74_1 := NB166_160.out
         have hms74_2 := NB166_164.out
         have hms74_3 := NB166_165.out
         have hms74_5 := NB166_194.out
         have hs75 : w60.cell? ⟨gb166, 6, none⟩ = some (.int .u32 x167006_1) := (blk_cell BK166.out 6).trans rfl
         have hfs75 := blk_frozen BK166.out 6
         have hns75_0 := NB159_166.out
         have hns75_1 := NB160_166.out
         have hns75_2 := NB164_166.out
         have hns75_3 := NB165_166.out
         have hns75_5 := NB194_166.out
         have hms75_0 := NB166_159.out
         have hms75_1 := NB166_160.out
         have hms75_2 := NB166_164.out
         have hms75_3 := NB166_165.out
         have hms75_5 := NB166_194.out
         have hs76 : w60.cell? ⟨gb166, 7, none⟩ = some (.int .u32 x167007_1) := (blk_cell BK166.out 7).trans rfl
         have hfs76 := blk_frozen BK166.out 7
         have hns76_0 := NB159_166.out
         have hns76_1 := NB160_166.out
         have hns76_2 := NB164_166.out
         have hns76_3 := NB165_166.out
         have hns76_5 := NB194_166.out
         have hms76_0 := NB166_159.out
         have hms76_1 := NB166_160.out
         have hms76_2 := NB166_164.out
         have hms76_3 := NB166_165.out
         have hms76_5 := NB166_194.out
         refine skip_ (w1 := ?_) ?_ ?_ ?_ ?_
         rotate_left
         · rfl
         · rfl
         ·
           go_simp
           rfl
         refine hK.out _ _ ?_
         clear hK K
         refine done_ (done_of HT_.out (by kernel_rfl)) ?_
         try go_wp2
         go_roundg k1
         case measure => have := HK1.out; omega
         case rel => exact ⟨(wrap64 (x8_1 + 1)), (y183), (t195), (t196), (t197), (t198), (t199), (t200), (t201), (t202), (t211), (t212), (t213), (t214), (t215), (t216), (t217), (t218), (.slice (some ⟨go33, 0, none⟩) x165000_1.length co41), (by first | rfl | (simp; done) | (simp [*]; done)), H', ⟨by have := HK1.out; omega⟩, ⟨by (with_reducible repeat (first | apply Kd.R_alloc | apply Kd.R_drewN | apply Kd.R_drew)); exact Kd.R_mono (Kd.R_far (p := ⟨gb166, 7, none⟩) (Kd.R_far (p := ⟨gb166, 6, none⟩) (Kd.R_far (p := ⟨gb166, 5, none⟩) (Kd.R_far (p := ⟨gb166, 4, none⟩) (Kd.R_far (p := ⟨gb166, 3, none⟩) (Kd.R_far (p := ⟨gb166, 2, none⟩) (Kd.R_far (p := ⟨gb166, 1, none⟩) (Kd.R_far (p := ⟨gb166, 0, none⟩) (Kd.R_far (p := ⟨gb165, 7, none⟩) (Kd.R_far (p := ⟨gb165, 6, none⟩) (Kd.R_far (p := ⟨gb165, 5, none⟩) (Kd.R_far (p := ⟨gb165, 4, none⟩) (Kd.R_far (p := ⟨gb165, 3, none⟩) (Kd.R_far (p := ⟨gb165, 2, none⟩) (Kd.R_far (p := ⟨gb165, 1, none⟩) (Kd.R_far (p := ⟨gb165, 0, none⟩) (Kd.R_types (Kd.R_types HO_165000.out BK165.out (by decide)) BK166.out (by decide)) (fun _ hk => hk.1.2) (.int .u32 t195)) (fun _ hk => hk.1.2) (.int .u32 t196)) (fun _ hk => hk.1.2) (.int .u32 t197)) (fun _ hk => hk.1.2) (.int .u32 t198)) (fun _ hk => hk.1.2) (.int .u32 t199)) (fun _ hk => hk.1.2) (.int .u32 t200)) (fun _ hk => hk.1.2) (.int .u32 t201)) (fun _ hk => hk.1.2) (.int .u32 t202)) (fun _ hk => hk.2) (.int .u32 t211)) (fun _ hk => hk.2) (.int .u32 t212)) (fun _ hk => hk.2) (.int .u32 t213)) (fun _ hk => hk.2) (.int .u32 t214)) (fun _ hk => hk.2) (.int .u32 t215)) (fun _ hk => hk.2) (.int .u32 t216)) (fun _ hk => hk.2) (.int .u32 t217)) (fun _ hk => hk.2) (.int .u32 t218)) (fun _ hk => trivial)⟩, ⟨by (repeat (first | (with_reducible first | refine blk_drewN ?_ _ | refine blk_drew ?_ | refine blk_alloc ?_ _) | refine blk_far ?_ NB159_166.out _)); (repeat (first | (with_reducible first | refine blk_drewN ?_ _ | refine blk_drew ?_ | refine blk_alloc ?_ _) | refine blk_far ?_ NB159_165.out _)); (with_reducible repeat (first | refine blk_drewN ?_ _ | refine blk_drew ?_ | refine blk_alloc ?_ _)); exact BK159.out⟩, ⟨by (repeat (first | (with_reducible first | refine blk_drewN ?_ _ | refine blk_drew ?_ | refine blk_alloc ?_ _) | refine blk_far ?_ NB160_166.out _)); (repeat (first | (with_reducible first | refine blk_drewN ?_ _ | refine blk_drew ?_ | refine blk_alloc ?_ _) | refine blk_far ?_ NB160_165.out _)); (with_reducible repeat (first | refine blk_drewN ?_ _ | refine blk_drew ?_ | refine blk_alloc ?_ _)); exact BK160.out⟩, ⟨by (repeat (first | (with_reducible first | refine blk_drewN ?_ _ | refine blk_drew ?_ | refine blk_alloc ?_ _) | refine blk_far ?_ NB164_166.out _)); (repeat (first | (with_reducible first | refine blk_drewN ?_ _ | refine blk_drew ?_ | refine blk_alloc ?_ _) | refine blk_far ?_ NB164_165.out _)); (with_reducible repeat (first | refine blk_drewN ?_ _ | refine blk_drew ?_ | refine blk_alloc ?_ _)); exact BK164.out⟩, ⟨by (repeat (first | (with_reducible first | refine blk_drewN ?_ _ | refine blk_drew ?_ | refine blk_alloc ?_ _) | refine blk_far ?_ NB165_166.out _)); (with_reducible repeat (first | refine blk_drewN ?_ _ | refine blk_drew ?_ | refine blk_alloc ?_ _)); refine blk_put (cs := #[.int .u32 t195, .int .u32 t196, .int .u32 t197, .int .u32 t198, .int .u32 t199, .int .u32 t200, .int .u32 t201, .int .u32 x166007_1]) ?_ 7 _ rfl; (with_reducible repeat (first | refine blk_drewN ?_ _ | refine blk_drew ?_ | refine blk_alloc ?_ _)); refine blk_put (cs := #[.int .u32 t195, .int .u32 t196, .int .u32 t197, .int .u32 t198, .int .u32 t199, .int .u32 t200, .int .u32 x166006_1, .int .u32 x166007_1]) ?_ 6 _ rfl; (with_reducible repeat (first | refine blk_drewN ?_ _ | refine blk_drew ?_ | refine blk_alloc ?_ _)); refine blk_put (cs := #[.int .u32 t195, .int .u32 t196, .int .u32 t197, .int .u32 t198, .int .u32 t199, .int .u32 x166005_1, .int .u32 x166006_1, .int .u32 x166007_1]) ?_ 5 _ rfl; (with_reducible repeat (first | refine blk_drewN ?_ _ | refine blk_drew ?_ | refine blk_alloc ?_ _)); refine blk_put (cs := #[.int .u32 t195, .int .u32 t196, .int .u32 t197, .int .u32 t198, .int .u32 x166004_1, .int .u32 x166005_1, .int .u32 x166006_1, .int .u32 x166007_1]) ?_ 4 _ rfl; (with_reducible repeat (first | refine blk_drewN ?_ _ | refine blk_drew ?_ | refine blk_alloc ?_ _)); refine blk_put (cs := #[.int .u32 t195, .int .u32 t196, .int .u32 t197, .int .u32 x166003_1, .int .u32 x166004_1, .int .u32 x166005_1, .int .u32 x166006_1, .int .u32 x166007_1]) ?_ 3 _ rfl; (with_reducible repeat (first | refine blk_drewN ?_ _ | refine blk_drew ?_ | refine blk_alloc ?_ _)); refine blk_put (cs := #[.int .u32 t195, .int .u32 t196, .int .u32 x166002_1, .int .u32 x166003_1, .int .u32 x166004_1, .int .u32 x166005_1, .int .u32 x166006_1, .int .u32 x166007_1]) ?_ 2 _ rfl; (with_reducible repeat (first | refine blk_drewN ?_ _ | refine blk_drew ?_ | refine blk_alloc ?_ _)); refine blk_put (cs := #[.int .u32 t195, .int .u32 x166001_1, .int .u32 x166002_1, .int .u32 x166003_1, .int .u32 x166004_1, .int .u32 x166005_1, .int .u32 x166006_1, .int .u32 x166007_1]) ?_ 1 _ rfl; (with_reducible repeat (first | refine blk_drewN ?_ _ | refine blk_drew ?_ | refine blk_alloc ?_ _)); refine blk_put (cs := #[.int .u32 x166000_1, .int .u32 x166001_1, .int .u32 x166002_1, .int .u32 x166003_1, .int .u32 x166004_1, .int .u32 x166005_1, .int .u32 x166006_1, .int .u32 x166007_1]) ?_ 0 _ rfl; (with_reducible repeat (first | refine blk_drewN ?_ _ | refine blk_drew ?_ | refine blk_alloc ?_ _)); exact BK165.out⟩, ⟨by (with_reducible repeat (first | refine blk_drewN ?_ _ | refine blk_drew ?_ | refine blk_alloc ?_ _)); refine blk_put (cs := #[.int .u32 t211, .int .u32 t212, .int .u32 t213, .int .u32 t214, .int .u32 t215, .int .u32 t216, .int .u32 t217, .int .u32 x167007_1]) ?_ 7 _ rfl; (with_reducible repeat (first | refine blk_drewN ?_ _ | refine blk_drew ?_ | refine blk_alloc ?_ _)); refine blk_put (cs := #[.int .u32 t211, .int .u32 t212, .int .u32 t213, .int .u32 t214, .int .u32 t215, .int .u32 t216, .int .u32 x167006_1, .int .u32 x167007_1]) ?_ 6 _ rfl; (with_reducible repeat (first | refine blk_drewN ?_ _ | refine blk_drew ?_ | refine blk_alloc ?_ _)); refine blk_put (cs := #[.int .u32 t211, .int .u32 t212, .int .u32 t213, .int .u32 t214, .int .u32 t215, .int .u32 x167005_1, .int .u32 x167006_1, .int .u32 x167007_1]) ?_ 5 _ rfl; (with_reducible repeat (first | refine blk_drewN ?_ _ | refine blk_drew ?_ | refine blk_alloc ?_ _)); refine blk_put (cs := #[.int .u32 t211, .int .u32 t212, .int .u32 t213, .int .u32 t214, .int .u32 x167004_1, .int .u32 x167005_1, .int .u32 x167006_1, .int .u32 x167007_1]) ?_ 4 _ rfl; (with_reducible repeat (first | refine blk_drewN ?_ _ | refine blk_drew ?_ | refine blk_alloc ?_ _)); refine blk_put (cs := #[.int .u32 t211, .int .u32 t212, .int .u32 t213, .int .u32 x167003_1, .int .u32 x167004_1, .int .u32 x167005_1, .int .u32 x167006_1, .int .u32 x167007_1]) ?_ 3 _ rfl; (with_reducible repeat (first | refine blk_drewN ?_ _ | refine blk_drew ?_ | refine blk_alloc ?_ _)); refine blk_put (cs := #[.int .u32 t211, .int .u32 t212, .int .u32 x167002_1, .int .u32 x167003_1, .int .u32 x167004_1, .int .u32 x167005_1, .int .u32 x167006_1, .int .u32 x167007_1]) ?_ 2 _ rfl; (with_reducible repeat (first | refine blk_drewN ?_ _ | refine blk_drew ?_ | refine blk_alloc ?_ _)); refine blk_put (cs := #[.int .u32 t211, .int .u32 x167001_1, .int .u32 x167002_1, .int .u32 x167003_1, .int .u32 x167004_1, .int .u32 x167005_1, .int .u32 x167006_1, .int .u32 x167007_1]) ?_ 1 _ rfl; (with_reducible repeat (first | refine blk_drewN ?_ _ | refine blk_drew ?_ | refine blk_alloc ?_ _)); refine blk_put (cs := #[.int .u32 x167000_1, .int .u32 x167001_1, .int .u32 x167002_1, .int .u32 x167003_1, .int .u32 x167004_1, .int .u32 x167005_1, .int .u32 x167006_1, .int .u32 x167007_1]) ?_ 0 _ rfl; (repeat (first | (with_reducible first | refine blk_drewN ?_ _ | refine blk_drew ?_ | refine blk_alloc ?_ _) | refine blk_far ?_ NB166_165.out _)); (with_reducible repeat (first | refine blk_drewN ?_ _ | refine blk_drew ?_ | refine blk_alloc ?_ _)); exact BK166.out⟩, ⟨by repeat (first | (with_reducible first | exact HB.out | apply below_alloc | apply pw_below_drewN | apply below_drew1 | refine below_set ?_ GE159.out | refine below_set ?_ GE160.out | refine below_set ?_ GE164.out | refine below_set ?_ GE165.out | refine below_set ?_ GE166.out | refine below_set ?_ GE194.out) | exact HB.out)⟩⟩
        ·
         rw [if_neg c32] at H
         exact absurd H (by simp)
       ·
        rw [if_neg c31] at H
        exact absurd H (by simp)
      ·
       rw [if_neg c29] at H
       exact absurd H (by simp)
     ·
      rw [if_neg c28] at H
      have c28b0 : decide (x8_1 < (l1.length : Int)) = false := decide_eq_false c28
      clear c28
      replace H := Option.bind_eq_some_iff.mp H
      obtain ⟨⟨t167, t168⟩, A770, H⟩ := H
      replace H : ((offertoryref09_Signed.f x166000_1 x166001_1 x166002_1 x166003_1 x166004_1 x166005_1 x166006_1 x166007_1).bind fun bt169 => ((offertoryref09_Big_Wide.f bt169.1 bt169.2.1 bt169.2.2.1 bt169.2.2.2.1 bt169.2.2.2.2.1 bt169.2.2.2.2.2.1 bt169.2.2.2.2.2.2.1 bt169.2.2.2.2.2.2.2.1).bind fun bt178 => (some (x165000_1, (l1.length : Int), bt178.1, bt178.2, t167, t168, bt169.2.2.2.2.2.2.2.2)))) = some (r1, r2, r3, r4, r5, r6, r7) := H
      have A77 := Aside0.mk A770
      clear A770
      replace H := Option.bind_eq_some_iff.mp H
      obtain ⟨⟨t169, t170, t171, t172, t173, t174, t175, t176, t177⟩, A780, H⟩ := H
      replace H : ((offertoryref09_Big_Wide.f t169 t170 t171 t172 t173 t174 t175 t176).bind fun bt178 => (some (x165000_1, (l1.length : Int), bt178.1, bt178.2, t167, t168, t177))) = some (r1, r2, r3, r4, r5, r6, r7) := H
      have A78 := Aside0.mk A780
      clear A780
      replace H := Option.bind_eq_some_iff.mp H
      obtain ⟨⟨t178, t179⟩, A790, H⟩ := H
      replace H : (some (x165000_1, (l1.length : Int), t178, t179, t167, t168, t177)) = some (r1, r2, r3, r4, r5, r6, r7) := H
      have A79 := Aside0.mk A790
      clear A790
      simp only [Option.some.injEq, Prod.mk.injEq] at H
      obtain ⟨rfl, rfl, rfl, rfl, rfl, rfl, rfl⟩ := H
      have hnb80 := NB166_159.out
      have hnc80 := NB159_166.out
      have hnb81 := NB166_160.out
      have hnc81 := NB160_166.out
      have hnb82 := NB166_164.out
      have hnc82 := NB164_166.out
      have hnb83 := NB166_165.out
      have hnc83 := NB165_166.out
      have hcz84_0 : wr.cell? ⟨gb166, 0, none⟩ = some (.int .u32 x167000_1) := (blk_cell BK166.out 0).trans rfl
      have hcz84_1 : wr.cell? ⟨gb166, 1, none⟩ = some (.int .u32 x167001_1) := (blk_cell BK166.out 1).trans rfl
      have hcz84_2 : wr.cell? ⟨gb166, 2, none⟩ = some (.int .u32 x167002_1) := (blk_cell BK166.out 2).trans rfl
      have hcz84_3 : wr.cell? ⟨gb166, 3, none⟩ = some (.int .u32 x167003_1) := (blk_cell BK166.out 3).trans rfl
      have hcz84_4 : wr.cell? ⟨gb166, 4, none⟩ = some (.int .u32 x167004_1) := (blk_cell BK166.out 4).trans rfl
      have hcz84_5 : wr.cell? ⟨gb166, 5, none⟩ = some (.int .u32 x167005_1) := (blk_cell BK166.out 5).trans rfl
      have hcz84_6 : wr.cell? ⟨gb166, 6, none⟩ = some (.int .u32 x167006_1) := (blk_cell BK166.out 6).trans rfl
      have hcz84_7 : wr.cell? ⟨gb166, 7, none⟩ = some (.int .u32 x167007_1) := (blk_cell BK166.out 7).trans rfl
      have hfz84_0 := blk_frozen BK166.out 0
      have hfz84_1 := blk_frozen BK166.out 1
      have hfz84_2 := blk_frozen BK166.out 2
      have hfz84_3 := blk_frozen BK166.out 3
      have hfz84_4 := blk_frozen BK166.out 4
      have hfz84_5 := blk_frozen BK166.out 5
      have hfz84_6 := blk_frozen BK166.out 6
      have hfz84_7 := blk_frozen BK166.out 7
      go_wp2_with (first | ((with_reducible refine gate_callee (f := 23) rfl ?_); refine goesL_ (some 54) rfl rfl Try.func23 (by kernel_rfl) rfl #[.agg #[.int .u32 x167000_1, .int .u32 x167001_1, .int .u32 x167002_1, .int .u32 x167003_1, .int .u32 x167004_1, .int .u32 x167005_1, .int .u32 x167006_1, .int .u32 x167007_1]] rfl (by (try simp only [List.map_toArray, List.map_cons, List.map_nil]); first | done | rfl | (simp only [List.length_drop, List.length_take]; rfl)) ?_; (with_reducible refine (offertoryref09_Big_Wide.calls x167000_1 x167001_1 x167002_1 x167003_1 x167004_1 x167005_1 x167006_1 x167007_1 t167 t168 _ A77.out).mono ?_); rintro e w85 ⟨rfl, hb⟩; refine ⟨_, rfl, ?_⟩; have n0_ := Aside0.mk (Kd.R_below (by (with_reducible repeat (first | apply Kd.R_alloc | apply Kd.R_drewN | apply Kd.R_drew)); exact HO_165000.out) hb); have n1_ := offertoryref09_Stats.keepB BK159 hb; have n2_ := offertoryref09_Stats.keepB BK160 hb; have n3_ := offertoryref09_Stats.keepB BK164 hb; have n4_ := offertoryref09_Stats.keepB BK165 hb; have n5_ := offertoryref09_Stats.keepB BK166 hb; have n6_ := Aside0.mk (below_step (by repeat (first | (with_reducible first | exact HB.out | apply below_alloc | apply pw_below_drewN | apply below_drew1 | refine below_set ?_ GE159.out | refine below_set ?_ GE160.out | refine below_set ?_ GE164.out | refine below_set ?_ GE165.out | refine below_set ?_ GE166.out) | exact HB.out)) hb); clear HO_165000; clear BK159; clear BK160; clear BK164; clear BK165; clear BK166; clear HB; have HO_165000 := n0_; have BK159 := n1_; have BK160 := n2_; have BK164 := n3_; have BK165 := n4_; have BK166 := n5_; have HB := n6_; clear n0_ n1_ n2_ n3_ n4_ n5_ n6_; (try clear hb); (try clear hb2); (try clear hk); (try clear hi); have hnb86 := NB164_159.out; have hnc86 := NB159_164.out; have hnb87 := NB164_160.out; have hnc87 := NB160_164.out; have hnb88 := NB164_165.out; have hnc88 := NB165_164.out; have hcz89_0 : w85.cell? ⟨gb164, 0, none⟩ = some (u165000) := (blk_cell BK164.out 0).trans rfl; have hcz89_1 : w85.cell? ⟨gb164, 1, none⟩ = some (.int .i64 (l1.length : Int)) := (blk_cell BK164.out 1).trans rfl; have hcz89_2 : w85.cell? ⟨gb164, 2, none⟩ = some (.int .u64 0) := (blk_cell BK164.out 2).trans rfl; have hcz89_3 : w85.cell? ⟨gb164, 3, none⟩ = some (.int .u64 0) := (blk_cell BK164.out 3).trans rfl; have hcz89_4 : w85.cell? ⟨gb164, 4, none⟩ = some (.int .u64 0) := (blk_cell BK164.out 4).trans rfl; have hcz89_5 : w85.cell? ⟨gb164, 5, none⟩ = some (.int .u64 0) := (blk_cell BK164.out 5).trans rfl; have hcz89_6 : w85.cell? ⟨gb164, 6, none⟩ = some (.bool false) := (blk_cell BK164.out 6).trans rfl; have hfz89_0 := blk_frozen BK164.out 0; have hfz89_1 := blk_frozen BK164.out 1; have hfz89_2 := blk_frozen BK164.out 2; have hfz89_3 := blk_frozen BK164.out 3; have hfz89_4 := blk_frozen BK164.out 4; have hfz89_5 := blk_frozen BK164.out 5; have hfz89_6 := blk_frozen BK164.out 6; have hnb90 := NB165_159.out; have hnc90 := NB159_165.out; have hnb91 := NB165_160.out; have hnc91 := NB160_165.out; have hcz92_0 : w85.cell? ⟨gb165, 0, none⟩ = some (.int .u32 x166000_1) := (blk_cell BK165.out 0).trans rfl; have hcz92_1 : w85.cell? ⟨gb165, 1, none⟩ = some (.int .u32 x166001_1) := (blk_cell BK165.out 1).trans rfl; have hcz92_2 : w85.cell? ⟨gb165, 2, none⟩ = some (.int .u32 x166002_1) := (blk_cell BK165.out 2).trans rfl; have hcz92_3 : w85.cell? ⟨gb165, 3, none⟩ = some (.int .u32 x166003_1) := (blk_cell BK165.out 3).trans rfl; have hcz92_4 : w85.cell? ⟨gb165, 4, none⟩ = some (.int .u32 x166004_1) := (blk_cell BK165.out 4).trans rfl; have hcz92_5 : w85.cell? ⟨gb165, 5, none⟩ = some (.int .u32 x166005_1) := (blk_cell BK165.out 5).trans rfl; have hcz92_6 : w85.cell? ⟨gb165, 6, none⟩ = some (.int .u32 x166006_1) := (blk_cell BK165.out 6).trans rfl; have hcz92_7 : w85.cell? ⟨gb165, 7, none⟩ = some (.int .u32 x166007_1) := (blk_cell BK165.out 7).trans rfl; have hfz92_0 := blk_frozen BK165.out 0; have hfz92_1 := blk_frozen BK165.out 1; have hfz92_2 := blk_frozen BK165.out 2; have hfz92_3 := blk_frozen BK165.out 3; have hfz92_4 := blk_frozen BK165.out 4; have hfz92_5 := blk_frozen BK165.out 5; have hfz92_6 := blk_frozen BK165.out 6; have hfz92_7 := blk_frozen BK165.out 7) | ((with_reducible refine gate_callee (f := 15) rfl ?_); refine goesL_ (some 58) rfl rfl Try.func15 (by kernel_rfl) rfl #[.agg #[.int .u32 x166000_1, .int .u32 x166001_1, .int .u32 x166002_1, .int .u32 x166003_1, .int .u32 x166004_1, .int .u32 x166005_1, .int .u32 x166006_1, .int .u32 x166007_1]] rfl (by (try simp only [List.map_toArray, List.map_cons, List.map_nil]); first | done | rfl | (simp only [List.length_drop, List.length_take]; rfl)) ?_; (with_reducible refine (offertoryref09_Signed.calls x166000_1 x166001_1 x166002_1 x166003_1 x166004_1 x166005_1 x166006_1 x166007_1 t169 t170 t171 t172 t173 t174 t175 t176 t177 _ A78.out).mono ?_); rintro e w93 ⟨rfl, hb⟩; refine ⟨_, rfl, ?_⟩; have n0_ := Aside0.mk (Kd.R_below (by (with_reducible repeat (first | apply Kd.R_alloc | apply Kd.R_drewN | apply Kd.R_drew)); exact (Kd.R_mono (Kd.R_far (p := ⟨gb164, 5, none⟩) (Kd.R_far (p := ⟨gb164, 4, none⟩) (Kd.R_types HO_165000.out BK164.out (by decide)) (fun _ hk => hk.2) (.int .u64 t167)) (fun _ hk => hk.2) (.int .u64 t168)) (fun _ h_ => h_.1))) hb); have n1_ := Aside0.mk (blk_below (g := gb159) (o := .cells #[.int .i64 a0_0, .int .i64 a0_1, .int .i64 a0_2, .slice A0_3 l0_3.length c0_3] 24 (0, 0)) (by (repeat (first | (with_reducible first | refine blk_drewN ?_ _ | refine blk_drew ?_ | refine blk_alloc ?_ _) | refine blk_far ?_ NB159_164.out _)); (with_reducible repeat (first | refine blk_drewN ?_ _ | refine blk_drew ?_ | refine blk_alloc ?_ _)); exact BK159.out) hb); have n2_ := Aside0.mk (blk_below (g := gb160) (o := .cells #[.slice none 0 0, .int .i64 0, .int .u64 0, .int .u64 0, .int .u64 0, .int .u64 0, .bool false] 36 (0, 0)) (by (repeat (first | (with_reducible first | refine blk_drewN ?_ _ | refine blk_drew ?_ | refine blk_alloc ?_ _) | refine blk_far ?_ NB160_164.out _)); (with_reducible repeat (first | refine blk_drewN ?_ _ | refine blk_drew ?_ | refine blk_alloc ?_ _)); exact BK160.out) hb); have n3_ := Aside0.mk (blk_below (g := gb164) (o := .cells #[u165000, .int .i64 (l1.length : Int), .int .u64 0, .int .u64 0, .int .u64 t167, .int .u64 t168, .bool false] 36 (0, 0)) (by (with_reducible repeat (first | refine blk_drewN ?_ _ | refine blk_drew ?_ | refine blk_alloc ?_ _)); refine blk_put (cs := #[u165000, .int .i64 (l1.length : Int), .int .u64 0, .int .u64 0, .int .u64 t167, .int .u64 0, .bool false]) ?_ 5 _ rfl; (with_reducible repeat (first | refine blk_drewN ?_ _ | refine blk_drew ?_ | refine blk_alloc ?_ _)); refine blk_put (cs := #[u165000, .int .i64 (l1.length : Int), .int .u64 0, .int .u64 0, .int .u64 0, .int .u64 0, .bool false]) ?_ 4 _ rfl; (with_reducible repeat (first | refine blk_drewN ?_ _ | refine blk_drew ?_ | refine blk_alloc ?_ _)); exact BK164.out) hb); have n4_ := Aside0.mk (blk_below (g := gb165) (o := .cells #[.int .u32 x166000_1, .int .u32 x166001_1, .int .u32 x166002_1, .int .u32 x166003_1, .int .u32 x166004_1, .int .u32 x166005_1, .int .u32 x166006_1, .int .u32 x166007_1] 41 (0, 0)) (by (repeat (first | (with_reducible first | refine blk_drewN ?_ _ | refine blk_drew ?_ | refine blk_alloc ?_ _) | refine blk_far ?_ NB165_164.out _)); (with_reducible repeat (first | refine blk_drewN ?_ _ | refine blk_drew ?_ | refine blk_alloc ?_ _)); exact BK165.out) hb); have n5_ := Aside0.mk (blk_below (g := gb166) (o := .cells #[.int .u32 x167000_1, .int .u32 x167001_1, .int .u32 x167002_1, .int .u32 x167003_1, .int .u32 x167004_1, .int .u32 x167005_1, .int .u32 x167006_1, .int .u32 x167007_1] 41 (0, 0)) (by (repeat (first | (with_reducible first | refine blk_drewN ?_ _ | refine blk_drew ?_ | refine blk_alloc ?_ _) | refine blk_far ?_ NB166_164.out _)); (with_reducible repeat (first | refine blk_drewN ?_ _ | refine blk_drew ?_ | refine blk_alloc ?_ _)); exact BK166.out) hb); have n6_ := Aside0.mk (below_step (by repeat (first | (with_reducible first | exact HB.out | apply below_alloc | apply pw_below_drewN | apply below_drew1 | refine below_set ?_ GE159.out | refine below_set ?_ GE160.out | refine below_set ?_ GE164.out | refine below_set ?_ GE165.out | refine below_set ?_ GE166.out) | exact HB.out)) hb); clear HO_165000; clear BK159; clear BK160; clear BK164; clear BK165; clear BK166; clear HB; have HO_165000 := n0_; have BK159 := n1_; have BK160 := n2_; have BK164 := n3_; have BK165 := n4_; have BK166 := n5_; have HB := n6_; clear n0_ n1_ n2_ n3_ n4_ n5_ n6_; (try clear hb); (try clear hb2); (try clear hk); (try clear hi); have hcz94_0 : w93.cell? ⟨gb165, 0, none⟩ = some (.int .u32 x166000_1) := (blk_cell BK165.out 0).trans rfl; have hcz94_1 : w93.cell? ⟨gb165, 1, none⟩ = some (.int .u32 x166001_1) := (blk_cell BK165.out 1).trans rfl; have hcz94_2 : w93.cell? ⟨gb165, 2, none⟩ = some (.int .u32 x166002_1) := (blk_cell BK165.out 2).trans rfl; have hcz94_3 : w93.cell? ⟨gb165, 3, none⟩ = some (.int .u32 x166003_1) := (blk_cell BK165.out 3).trans rfl; have hcz94_4 : w93.cell? ⟨gb165, 4, none⟩ = some (.int .u32 x166004_1) := (blk_cell BK165.out 4).trans rfl; have hcz94_5 : w93.cell? ⟨gb165, 5, none⟩ = some (.int .u32 x166005_1) := (blk_cell BK165.out 5).trans rfl; have hcz94_6 : w93.cell? ⟨gb165, 6, none⟩ = some (.int .u32 x166006_1) := (blk_cell BK165.out 6).trans rfl; have hcz94_7 : w93.cell? ⟨gb165, 7, none⟩ = some (.int .u32 x166007_1) := (blk_cell BK165.out 7).trans rfl; have hfz94_0 := blk_frozen BK165.out 0; have hfz94_1 := blk_frozen BK165.out 1; have hfz94_2 := blk_frozen BK165.out 2; have hfz94_3 := blk_frozen BK165.out 3; have hfz94_4 := blk_frozen BK165.out 4; have hfz94_5 := blk_frozen BK165.out 5; have hfz94_6 := blk_frozen BK165.out 6; have hfz94_7 := blk_frozen BK165.out 7; have hcz95_0 : w93.cell? ⟨gb164, 0, none⟩ = some (u165000) := (blk_cell BK164.out 0).trans rfl; have hcz95_1 : w93.cell? ⟨gb164, 1, none⟩ = some (.int .i64 (l1.length : Int)) := (blk_cell BK164.out 1).trans rfl; have hcz95_2 : w93.cell? ⟨gb164, 2, none⟩ = some (.int .u64 0) := (blk_cell BK164.out 2).trans rfl; have hcz95_3 : w93.cell? ⟨gb164, 3, none⟩ = some (.int .u64 0) := (blk_cell BK164.out 3).trans rfl; have hcz95_4 : w93.cell? ⟨gb164, 4, none⟩ = some (.int .u64 t167) := (blk_cell BK164.out 4).trans rfl; have hcz95_5 : w93.cell? ⟨gb164, 5, none⟩ = some (.int .u64 t168) := (blk_cell BK164.out 5).trans rfl; have hcz95_6 : w93.cell? ⟨gb164, 6, none⟩ = some (.bool false) := (blk_cell BK164.out 6).trans rfl; have hfz95_0 := blk_frozen BK164.out 0; have hfz95_1 := blk_frozen BK164.out 1; have hfz95_2 := blk_frozen BK164.out 2; have hfz95_3 := blk_frozen BK164.out 3; have hfz95_4 := blk_frozen BK164.out 4; have hfz95_5 := blk_frozen BK164.out 5; have hfz95_6 := blk_frozen BK164.out 6) | ((with_reducible refine gate_callee (f := 23) rfl ?_); refine goesL_ (some 63) rfl rfl Try.func23 (by kernel_rfl) rfl #[.agg #[.int .u32 t169, .int .u32 t170, .int .u32 t171, .int .u32 t172, .int .u32 t173, .int .u32 t174, .int .u32 t175, .int .u32 t176]] rfl (by (try simp only [List.map_toArray, List.map_cons, List.map_nil]); first | done | rfl | (simp only [List.length_drop, List.length_take]; rfl)) ?_; (with_reducible refine (offertoryref09_Big_Wide.calls t169 t170 t171 t172 t173 t174 t175 t176 t178 t179 _ A79.out).mono ?_); rintro e w96 ⟨rfl, hb⟩; refine ⟨_, rfl, ?_⟩; have n0_ := Aside0.mk (Kd.R_below (by (with_reducible repeat (first | apply Kd.R_alloc | apply Kd.R_drewN | apply Kd.R_drew)); exact (Kd.R_mono (Kd.R_mono (Kd.R_far (p := ⟨gb164, 6, none⟩) (Kd.R_far (p := ⟨gb165, 7, none⟩) (Kd.R_far (p := ⟨gb165, 6, none⟩) (Kd.R_far (p := ⟨gb165, 5, none⟩) (Kd.R_far (p := ⟨gb165, 4, none⟩) (Kd.R_far (p := ⟨gb165, 3, none⟩) (Kd.R_far (p := ⟨gb165, 2, none⟩) (Kd.R_far (p := ⟨gb165, 1, none⟩) (Kd.R_far (p := ⟨gb165, 0, none⟩) (Kd.R_types (Kd.R_types HO_165000.out BK165.out (by decide)) BK164.out (by decide)) (fun _ hk => hk.1.2) (.int .u32 t169)) (fun _ hk => hk.1.2) (.int .u32 t170)) (fun _ hk => hk.1.2) (.int .u32 t171)) (fun _ hk => hk.1.2) (.int .u32 t172)) (fun _ hk => hk.1.2) (.int .u32 t173)) (fun _ hk => hk.1.2) (.int .u32 t174)) (fun _ hk => hk.1.2) (.int .u32 t175)) (fun _ hk => hk.1.2) (.int .u32 t176)) (fun _ hk => hk.2) (.bool t177)) (fun _ h_ => h_.1)) (fun _ h_ => h_.1))) hb); have n1_ := Aside0.mk (blk_below (g := gb159) (o := .cells #[.int .i64 a0_0, .int .i64 a0_1, .int .i64 a0_2, .slice A0_3 l0_3.length c0_3] 24 (0, 0)) (by (with_reducible repeat (first | refine blk_drewN ?_ _ | refine blk_drew ?_ | refine blk_alloc ?_ _)); refine blk_far ?_ NB159_164.out _; (repeat (first | (with_reducible first | refine blk_drewN ?_ _ | refine blk_drew ?_ | refine blk_alloc ?_ _) | refine blk_far ?_ NB159_165.out _)); (with_reducible repeat (first | refine blk_drewN ?_ _ | refine blk_drew ?_ | refine blk_alloc ?_ _)); exact BK159.out) hb); have n2_ := Aside0.mk (blk_below (g := gb160) (o := .cells #[.slice none 0 0, .int .i64 0, .int .u64 0, .int .u64 0, .int .u64 0, .int .u64 0, .bool false] 36 (0, 0)) (by (with_reducible repeat (first | refine blk_drewN ?_ _ | refine blk_drew ?_ | refine blk_alloc ?_ _)); refine blk_far ?_ NB160_164.out _; (repeat (first | (with_reducible first | refine blk_drewN ?_ _ | refine blk_drew ?_ | refine blk_alloc ?_ _) | refine blk_far ?_ NB160_165.out _)); (with_reducible repeat (first | refine blk_drewN ?_ _ | refine blk_drew ?_ | refine blk_alloc ?_ _)); exact BK160.out) hb); have n3_ := Aside0.mk (blk_below (g := gb164) (o := .cells #[u165000, .int .i64 (l1.length : Int), .int .u64 0, .int .u64 0, .int .u64 t167, .int .u64 t168, .bool t177] 36 (0, 0)) (by (with_reducible repeat (first | refine blk_drewN ?_ _ | refine blk_drew ?_ | refine blk_alloc ?_ _)); refine blk_put (cs := #[u165000, .int .i64 (l1.length : Int), .int .u64 0, .int .u64 0, .int .u64 t167, .int .u64 t168, .bool false]) ?_ 6 _ rfl; (repeat (first | (with_reducible first | refine blk_drewN ?_ _ | refine blk_drew ?_ | refine blk_alloc ?_ _) | refine blk_far ?_ NB164_165.out _)); (with_reducible repeat (first | refine blk_drewN ?_ _ | refine blk_drew ?_ | refine blk_alloc ?_ _)); exact BK164.out) hb); have n4_ := Aside0.mk (blk_below (g := gb165) (o := .cells #[.int .u32 t169, .int .u32 t170, .int .u32 t171, .int .u32 t172, .int .u32 t173, .int .u32 t174, .int .u32 t175, .int .u32 t176] 41 (0, 0)) (by (with_reducible repeat (first | refine blk_drewN ?_ _ | refine blk_drew ?_ | refine blk_alloc ?_ _)); refine blk_far ?_ NB165_164.out _; (with_reducible repeat (first | refine blk_drewN ?_ _ | refine blk_drew ?_ | refine blk_alloc ?_ _)); refine blk_put (cs := #[.int .u32 t169, .int .u32 t170, .int .u32 t171, .int .u32 t172, .int .u32 t173, .int .u32 t174, .int .u32 t175, .int .u32 x166007_1]) ?_ 7 _ rfl; (with_reducible repeat (first | refine blk_drewN ?_ _ | refine blk_drew ?_ | refine blk_alloc ?_ _)); refine blk_put (cs := #[.int .u32 t169, .int .u32 t170, .int .u32 t171, .int .u32 t172, .int .u32 t173, .int .u32 t174, .int .u32 x166006_1, .int .u32 x166007_1]) ?_ 6 _ rfl; (with_reducible repeat (first | refine blk_drewN ?_ _ | refine blk_drew ?_ | refine blk_alloc ?_ _)); refine blk_put (cs := #[.int .u32 t169, .int .u32 t170, .int .u32 t171, .int .u32 t172, .int .u32 t173, .int .u32 x166005_1, .int .u32 x166006_1, .int .u32 x166007_1]) ?_ 5 _ rfl; (with_reducible repeat (first | refine blk_drewN ?_ _ | refine blk_drew ?_ | refine blk_alloc ?_ _)); refine blk_put (cs := #[.int .u32 t169, .int .u32 t170, .int .u32 t171, .int .u32 t172, .int .u32 x166004_1, .int .u32 x166005_1, .int .u32 x166006_1, .int .u32 x166007_1]) ?_ 4 _ rfl; (with_reducible repeat (first | refine blk_drewN ?_ _ | refine blk_drew ?_ | refine blk_alloc ?_ _)); refine blk_put (cs := #[.int .u32 t169, .int .u32 t170, .int .u32 t171, .int .u32 x166003_1, .int .u32 x166004_1, .int .u32 x166005_1, .int .u32 x166006_1, .int .u32 x166007_1]) ?_ 3 _ rfl; (with_reducible repeat (first | refine blk_drewN ?_ _ | refine blk_drew ?_ | refine blk_alloc ?_ _)); refine blk_put (cs := #[.int .u32 t169, .int .u32 t170, .int .u32 x166002_1, .int .u32 x166003_1, .int .u32 x166004_1, .int .u32 x166005_1, .int .u32 x166006_1, .int .u32 x166007_1]) ?_ 2 _ rfl; (with_reducible repeat (first | refine blk_drewN ?_ _ | refine blk_drew ?_ | refine blk_alloc ?_ _)); refine blk_put (cs := #[.int .u32 t169, .int .u32 x166001_1, .int .u32 x166002_1, .int .u32 x166003_1, .int .u32 x166004_1, .int .u32 x166005_1, .int .u32 x166006_1, .int .u32 x166007_1]) ?_ 1 _ rfl; (with_reducible repeat (first | refine blk_drewN ?_ _ | refine blk_drew ?_ | refine blk_alloc ?_ _)); refine blk_put (cs := #[.int .u32 x166000_1, .int .u32 x166001_1, .int .u32 x166002_1, .int .u32 x166003_1, .int .u32 x166004_1, .int .u32 x166005_1, .int .u32 x166006_1, .int .u32 x166007_1]) ?_ 0 _ rfl; (with_reducible repeat (first | refine blk_drewN ?_ _ | refine blk_drew ?_ | refine blk_alloc ?_ _)); exact BK165.out) hb); have n5_ := Aside0.mk (blk_below (g := gb166) (o := .cells #[.int .u32 x167000_1, .int .u32 x167001_1, .int .u32 x167002_1, .int .u32 x167003_1, .int .u32 x167004_1, .int .u32 x167005_1, .int .u32 x167006_1, .int .u32 x167007_1] 41 (0, 0)) (by (with_reducible repeat (first | refine blk_drewN ?_ _ | refine blk_drew ?_ | refine blk_alloc ?_ _)); refine blk_far ?_ NB166_164.out _; (repeat (first | (with_reducible first | refine blk_drewN ?_ _ | refine blk_drew ?_ | refine blk_alloc ?_ _) | refine blk_far ?_ NB166_165.out _)); (with_reducible repeat (first | refine blk_drewN ?_ _ | refine blk_drew ?_ | refine blk_alloc ?_ _)); exact BK166.out) hb); have n6_ := Aside0.mk (below_step (by repeat (first | (with_reducible first | exact HB.out | apply below_alloc | apply pw_below_drewN | apply below_drew1 | refine below_set ?_ GE159.out | refine below_set ?_ GE160.out | refine below_set ?_ GE164.out | refine below_set ?_ GE165.out | refine below_set ?_ GE166.out) | exact HB.out)) hb); clear HO_165000; clear BK159; clear BK160; clear BK164; clear BK165; clear BK166; clear HB; have HO_165000 := n0_; have BK159 := n1_; have BK160 := n2_; have BK164 := n3_; have BK165 := n4_; have BK166 := n5_; have HB := n6_; clear n0_ n1_ n2_ n3_ n4_ n5_ n6_; (try clear hb); (try clear hb2); (try clear hk); (try clear hi); have hcz97_0 : w96.cell? ⟨gb164, 0, none⟩ = some (u165000) := (blk_cell BK164.out 0).trans rfl; have hcz97_1 : w96.cell? ⟨gb164, 1, none⟩ = some (.int .i64 (l1.length : Int)) := (blk_cell BK164.out 1).trans rfl; have hcz97_2 : w96.cell? ⟨gb164, 2, none⟩ = some (.int .u64 0) := (blk_cell BK164.out 2).trans rfl; have hcz97_3 : w96.cell? ⟨gb164, 3, none⟩ = some (.int .u64 0) := (blk_cell BK164.out 3).trans rfl; have hcz97_4 : w96.cell? ⟨gb164, 4, none⟩ = some (.int .u64 t167) := (blk_cell BK164.out 4).trans rfl; have hcz97_5 : w96.cell? ⟨gb164, 5, none⟩ = some (.int .u64 t168) := (blk_cell BK164.out 5).trans rfl; have hcz97_6 : w96.cell? ⟨gb164, 6, none⟩ = some (.bool t177) := (blk_cell BK164.out 6).trans rfl; have hfz97_0 := blk_frozen BK164.out 0; have hfz97_1 := blk_frozen BK164.out 1; have hfz97_2 := blk_frozen BK164.out 2; have hfz97_3 := blk_frozen BK164.out 3; have hfz97_4 := blk_frozen BK164.out 4; have hfz97_5 := blk_frozen BK164.out 5; have hfz97_6 := blk_frozen BK164.out 6; obtain ⟨Ao98, co98, eo98⟩ := Kd.R_slice HO_165000.out; subst eo98; have hnb99 := NB160_159.out; have hnc99 := NB159_160.out; have hcz100_0 : w96.cell? ⟨gb160, 0, none⟩ = some (.slice none 0 0) := (blk_cell BK160.out 0).trans rfl; have hcz100_1 : w96.cell? ⟨gb160, 1, none⟩ = some (.int .i64 0) := (blk_cell BK160.out 1).trans rfl; have hcz100_2 : w96.cell? ⟨gb160, 2, none⟩ = some (.int .u64 0) := (blk_cell BK160.out 2).trans rfl; have hcz100_3 : w96.cell? ⟨gb160, 3, none⟩ = some (.int .u64 0) := (blk_cell BK160.out 3).trans rfl; have hcz100_4 : w96.cell? ⟨gb160, 4, none⟩ = some (.int .u64 0) := (blk_cell BK160.out 4).trans rfl; have hcz100_5 : w96.cell? ⟨gb160, 5, none⟩ = some (.int .u64 0) := (blk_cell BK160.out 5).trans rfl; have hcz100_6 : w96.cell? ⟨gb160, 6, none⟩ = some (.bool false) := (blk_cell BK160.out 6).trans rfl; have hfz100_0 := blk_frozen BK160.out 0; have hfz100_1 := blk_frozen BK160.out 1; have hfz100_2 := blk_frozen BK160.out 2; have hfz100_3 := blk_frozen BK160.out 3; have hfz100_4 := blk_frozen BK160.out 4; have hfz100_5 := blk_frozen BK160.out 5; have hfz100_6 := blk_frozen BK160.out 6))
      refine bodyPost_ret (results_cell_row rfl _ _ gb160 36 #[.slice Ao98 x165000_1.length co98, .int .i64 (l1.length : Int), .int .u64 t178, .int .u64 t179, .int .u64 t167, .int .u64 t168, .bool t177] (0, 0) _ rfl (by (with_reducible repeat (first | refine blk_drewN ?_ _ | refine blk_drew ?_ | refine blk_alloc ?_ _)); refine blk_put (cs := #[.slice Ao98 x165000_1.length co98, .int .i64 (l1.length : Int), .int .u64 t178, .int .u64 t179, .int .u64 t167, .int .u64 t168, .bool false]) ?_ 6 _ rfl; (with_reducible repeat (first | refine blk_drewN ?_ _ | refine blk_drew ?_ | refine blk_alloc ?_ _)); refine blk_put (cs := #[.slice Ao98 x165000_1.length co98, .int .i64 (l1.length : Int), .int .u64 t178, .int .u64 t179, .int .u64 t167, .int .u64 0, .bool false]) ?_ 5 _ rfl; (with_reducible repeat (first | refine blk_drewN ?_ _ | refine blk_drew ?_ | refine blk_alloc ?_ _)); refine blk_put (cs := #[.slice Ao98 x165000_1.length co98, .int .i64 (l1.length : Int), .int .u64 t178, .int .u64 t179, .int .u64 0, .int .u64 0, .bool false]) ?_ 4 _ rfl; (with_reducible repeat (first | refine blk_drewN ?_ _ | refine blk_drew ?_ | refine blk_alloc ?_ _)); refine blk_put (cs := #[.slice Ao98 x165000_1.length co98, .int .i64 (l1.length : Int), .int .u64 t178, .int .u64 0, .int .u64 0, .int .u64 0, .bool false]) ?_ 3 _ rfl; (with_reducible repeat (first | refine blk_drewN ?_ _ | refine blk_drew ?_ | refine blk_alloc ?_ _)); refine blk_put (cs := #[.slice Ao98 x165000_1.length co98, .int .i64 (l1.length : Int), .int .u64 0, .int .u64 0, .int .u64 0, .int .u64 0, .bool false]) ?_ 2 _ rfl; (with_reducible repeat (first | refine blk_drewN ?_ _ | refine blk_drew ?_ | refine blk_alloc ?_ _)); refine blk_put (cs := #[.slice Ao98 x165000_1.length co98, .int .i64 0, .int .u64 0, .int .u64 0, .int .u64 0, .int .u64 0, .bool false]) ?_ 1 _ rfl; (with_reducible repeat (first | refine blk_drewN ?_ _ | refine blk_drew ?_ | refine blk_alloc ?_ _)); refine blk_put (cs := #[.slice none 0 0, .int .i64 0, .int .u64 0, .int .u64 0, .int .u64 0, .int .u64 0, .bool false]) ?_ 0 _ rfl; (repeat (first | (with_reducible first | refine blk_drewN ?_ _ | refine blk_drew ?_ | refine blk_alloc ?_ _) | refine blk_far ?_ NB160_164.out _)); (with_reducible repeat (first | refine blk_drewN ?_ _ | refine blk_drew ?_ | refine blk_alloc ?_ _)); exact BK160.out) Try.underlying36 rfl (by kernel_rfl)) rfl ?_
      exact ⟨_, by first | rfl | (simp [errW_none, errW_some] <;> rfl) | (simp only [← hji3]; first | rfl | (simp [errW_none, errW_some] <;> rfl)) | (simp [*, errW_none, errW_some] <;> rfl), by (with_reducible repeat (first | apply Kd.R_alloc | apply Kd.R_drewN | apply Kd.R_drew)); exact Kd.R_mono (Kd.R_far (p := ⟨gb160, 6, none⟩) (Kd.R_far (p := ⟨gb160, 5, none⟩) (Kd.R_far (p := ⟨gb160, 4, none⟩) (Kd.R_far (p := ⟨gb160, 3, none⟩) (Kd.R_far (p := ⟨gb160, 2, none⟩) (Kd.R_far (p := ⟨gb160, 1, none⟩) (Kd.R_far (p := ⟨gb160, 0, none⟩) (Kd.R_far (p := ⟨gb164, 3, none⟩) (Kd.R_far (p := ⟨gb164, 2, none⟩) (Kd.R_types (Kd.R_types HO_165000.out BK164.out (by decide)) BK160.out (by decide)) (fun _ hk => hk.1.2) (.int .u64 t178)) (fun _ hk => hk.1.2) (.int .u64 t179)) (fun _ hk => hk.2) (.slice Ao98 x165000_1.length co98)) (fun _ hk => hk.2) (.int .i64 (l1.length : Int))) (fun _ hk => hk.2) (.int .u64 t178)) (fun _ hk => hk.2) (.int .u64 t179)) (fun _ hk => hk.2) (.int .u64 t167)) (fun _ hk => hk.2) (.int .u64 t168)) (fun _ hk => hk.2) (.bool t177)) (fun _ hk => trivial), by repeat (first | (with_reducible first | exact HB.out | apply below_alloc | apply pw_below_drewN | apply below_drew1 | refine below_set ?_ GE159.out | refine below_set ?_ GE160.out | refine below_set ?_ GE164.out | refine below_set ?_ GE165.out | refine below_set ?_ GE166.out) | exact HB.out)⟩
  ·
   rw [if_neg c5] at H
   exact absurd H (by simp)
 ·
  rw [if_neg c4] at H
  exact absurd H (by simp)

end Go.Proofs.Ythokkogdkpmdcaa.PAll
