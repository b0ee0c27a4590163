/- The Go functions that the laws reach, as Lean functions, and that each call comes to what its function says. Written by a program of this session (a turned copy of the kit's print). No condition beyond those that each theorem states. -/
import Derived.Test.YtdpekjffjobabaaPAllx0
import Derived.Test.YtdpekjffjobabaaPAllx8
import Derived.Test.YtdpekjffjobabaaPAllx9
import Derived.Test.YtdpekjffjobabaaPAllx10
namespace Go.Proofs.Ytdpekjffjobabaa.PAll
open Go.RowKit Go.Proofs.YtdpekjffjobabaaW.PrintWords Go.Proofs.YtdpekjffjobabaaW.PrintLast Go.Proofs.YtdpekjffjobabaaW.PrintMore
attribute [local go_sem] max2_int min2_int max_two min_two max_three min_three max_four min_four   -- for this text's walks alone
set_option linter.unusedVariables false
set_option linter.unusedSimpArgs false

theorem offertoryref09_Stats.keepB {W0 W w1 : World} {g : Nat} {o : Obj} (h : Aside0 (W0.heap[g]? = some o)) (hb : Below W.heap.size W w1) (hs : W0.heap[g]? = some o → W.heap[g]? = some o := by intro h_; (with_reducible repeat (first | refine blk_drewN ?_ _ | refine blk_drew ?_ | refine blk_alloc ?_ _)); exact h_) : Aside0 (w1.heap[g]? = some o) := ⟨(hb.block g (blk_lt (hs h.out))).trans (hs h.out)⟩
theorem offertoryref09_Stats.neL {W0 W : World} {g gb : Nat} {o : Obj} (h : Aside0 (W0.heap[g]? = some o)) (hg : gb = W.heap.size) (hs : W0.heap[g]? = some o → W.heap[g]? = some o := by intro h_; (with_reducible repeat (first | refine blk_drewN ?_ _ | refine blk_drew ?_ | refine blk_alloc ?_ _)); exact h_) : Aside0 (g ≠ gb) := ⟨by rw [hg]; exact Nat.ne_of_lt (blk_lt (hs h.out))⟩
theorem offertoryref09_Stats.neG {W0 W : World} {g gb : Nat} {o : Obj} (h : Aside0 (W0.heap[g]? = some o)) (hg : gb = W.heap.size) (hs : W0.heap[g]? = some o → W.heap[g]? = some o := by intro h_; (with_reducible repeat (first | refine blk_drewN ?_ _ | refine blk_drew ?_ | refine blk_alloc ?_ _)); exact h_) : Aside0 (gb ≠ g) := ⟨by rw [hg]; exact Nat.ne_of_gt (blk_lt (hs h.out))⟩
/-! ### offertoryref09_Stats: function 12 -/
def offertoryref09_Stats.l0 : Nat → List Int → Int → Int → Int → Int → List Int → List Int → Int → Int → Int → Int → Int → Bool → Int → Int → Int → Int → Int → Int → Int → Int → Int → Int → Int → Int → Int → Int → Int → Int → Option (List Int × Int × Int × Int × Int × Int × Bool)
 | 0, _, _, _, _, _, _, _, _, _, _, _, _, _, _, _, _, _, _, _, _, _, _, _, _, _, _, _, _, _ => none
 | k + 1, x1, x8, x245000, x245001, x245002, x245003, x250000, x250001, x250002, x250003, x250004, x250005, x250006, x251000, x251001, x251002, x251003, x251004, x251005, x251006, x251007, x252000, x252001, x252002, x252003, x252004, x252005, x252006, x252007 => if x8 < (x1.length : Int) then (if 0 ≤ x8 then ((offertoryref09_Bin.f k x245000 x245001 x245002 x245003 (rd x1 x8)).bind fun t266 => (if 0 ≤ t266 then (if t266 < (x250000.length : Int) then ((offertoryref09_Clamp.f x245000 x245001 x245002 x245003 (rd x1 x8)).bind fun t270 => ((offertoryref09_Int.f t270).bind fun bt271 => ((offertoryref09_Add.f x251000 x251001 x251002 x251003 x251004 x251005 x251006 x251007 bt271.1 bt271.2.1 bt271.2.2.1 bt271.2.2.2.1 bt271.2.2.2.2.1 bt271.2.2.2.2.2.1 bt271.2.2.2.2.2.2.1 bt271.2.2.2.2.2.2.2).bind fun bt280 => ((offertoryref09_Mul.f bt271.1 bt271.2.1 bt271.2.2.1 bt271.2.2.2.1 bt271.2.2.2.2.1 bt271.2.2.2.2.2.1 bt271.2.2.2.2.2.2.1 bt271.2.2.2.2.2.2.2 bt271.1 bt271.2.1 bt271.2.2.1 bt271.2.2.2.1 bt271.2.2.2.2.1 bt271.2.2.2.2.2.1 bt271.2.2.2.2.2.2.1 bt271.2.2.2.2.2.2.2).bind fun bt288 => ((offertoryref09_Add.f x252000 x252001 x252002 x252003 x252004 x252005 x252006 x252007 bt288.1 bt288.2.1 bt288.2.2.1 bt288.2.2.2.1 bt288.2.2.2.2.1 bt288.2.2.2.2.2.1 bt288.2.2.2.2.2.2.1 bt288.2.2.2.2.2.2.2).bind fun bt296 => (offertoryref09_Stats.l0 k x1 (wrap64 (x8 + 1)) x245000 x245001 x245002 x245003 (x250000.set (t266 : Int).toNat (wrap64 ((rd x250000 t266) + 1))) x250001 x250002 x250003 x250004 x250005 x250006 bt280.1 bt280.2.1 bt280.2.2.1 bt280.2.2.2.1 bt280.2.2.2.2.1 bt280.2.2.2.2.2.1 bt280.2.2.2.2.2.2.1 bt280.2.2.2.2.2.2.2 bt296.1 bt296.2.1 bt296.2.2.1 bt296.2.2.2.1 bt296.2.2.2.2.1 bt296.2.2.2.2.2.1 bt296.2.2.2.2.2.2.1 bt296.2.2.2.2.2.2.2)))))) else (none)) else (none))) else (none)) else ((offertoryref09_Big_Wide.f x252000 x252001 x252002 x252003 x252004 x252005 x252006 x252007).bind fun bt252 => ((offertoryref09_Signed.f x251000 x251001 x251002 x251003 x251004 x251005 x251006 x251007).bind fun bt254 => ((offertoryref09_Big_Wide.f bt254.1 bt254.2.1 bt254.2.2.1 bt254.2.2.2.1 bt254.2.2.2.2.1 bt254.2.2.2.2.2.1 bt254.2.2.2.2.2.2.1 bt254.2.2.2.2.2.2.2.1).bind fun bt263 => (some (x250000, x250001, bt263.1, bt263.2, bt252.1, bt252.2, bt254.2.2.2.2.2.2.2.2)))))
def offertoryref09_Stats.f (k : Nat) (a0_0 : Int) (a0_1 : Int) (a0_2 : Int) (l0_3 : List Int) (l1 : List Int) : Option (List Int × Int × Int × Int × Int × Int × Bool) := if 0 ≤ (wrap64 ((l0_3.length : Int) + 1)) then (if (wrap64 ((l0_3.length : Int) + 1) : Int).toNat ≤ 35184372088832 then (offertoryref09_Stats.l0 k l1 0 a0_0 a0_1 a0_2 l0_3 (List.replicate (wrap64 ((l0_3.length : Int) + 1) : Int).toNat 0) (l1.length : Int) 0 0 0 0 false 0 0 0 0 0 0 0 0 0 0 0 0 0 0 0 0) else (none)) else (none)
theorem offertoryref09_Stats.mono_l : ∀ k, (∀ y0 y1 y2 y3 y4 y5 y6 y7 y8 y9 y10 y11 y12 y13 y14 y15 y16 y17 y18 y19 y20 y21 y22 y23 y24 y25 y26 y27 y28, LeO (offertoryref09_Stats.l0 k y0 y1 y2 y3 y4 y5 y6 y7 y8 y9 y10 y11 y12 y13 y14 y15 y16 y17 y18 y19 y20 y21 y22 y23 y24 y25 y26 y27 y28) (offertoryref09_Stats.l0 (k + 1) y0 y1 y2 y3 y4 y5 y6 y7 y8 y9 y10 y11 y12 y13 y14 y15 y16 y17 y18 y19 y20 y21 y22 y23 y24 y25 y26 y27 y28))
 | 0 => fun _ _ _ _ _ _ _ _ _ _ _ _ _ _ _ _ _ _ _ _ _ _ _ _ _ _ _ _ _ r h => by simp [offertoryref09_Stats.l0] at h
 | k + 1 => by
  have ih0 := offertoryref09_Stats.mono_l k
  ·
   intro y0 y1 y2 y3 y4 y5 y6 y7 y8 y9 y10 y11 y12 y13 y14 y15 y16 y17 y18 y19 y20 y21 y22 y23 y24 y25 y26 y27 y28
   unfold offertoryref09_Stats.l0
   repeat' first
   | (with_reducible exact ih0 _ _ _ _ _ _ _ _ _ _ _ _ _ _ _ _ _ _ _ _ _ _ _ _ _ _ _ _ _)
   | (with_reducible exact offertoryref09_Bin.mono _ _ _ _ _ _)
   | (with_reducible exact LeO.refl _)
   | (with_reducible exact LeO.none _)
   | (with_reducible refine LeO.ite ?_ ?_)
   | (with_reducible refine LeO.bind ?_ (fun _ => ?_))
   | exact ih0 _ _ _ _ _ _ _ _ _ _ _ _ _ _ _ _ _ _ _ _ _ _ _ _ _ _ _ _ _
   | exact offertoryref09_Bin.mono _ _ _ _ _ _
   | exact LeO.none _
   | refine LeO.ite ?_ ?_
   | refine LeO.bind ?_ (fun _ => ?_)
theorem offertoryref09_Stats.mono : ∀ a0 a1 a2 a3 a4 k, LeO (offertoryref09_Stats.f k a0 a1 a2 a3 a4) (offertoryref09_Stats.f (k + 1) a0 a1 a2 a3 a4) := by
 intro a0 a1 a2 a3 a4 k
 have ih0 := offertoryref09_Stats.mono_l k
 unfold offertoryref09_Stats.f
 repeat' first
   | (with_reducible exact ih0 _ _ _ _ _ _ _ _ _ _ _ _ _ _ _ _ _ _ _ _ _ _ _ _ _ _ _ _ _)
   | (with_reducible exact offertoryref09_Bin.mono _ _ _ _ _ _)
   | (with_reducible exact LeO.refl _)
   | (with_reducible exact LeO.none _)
   | (with_reducible refine LeO.ite ?_ ?_)
   | (with_reducible refine LeO.bind ?_ (fun _ => ?_))
   | exact ih0 _ _ _ _ _ _ _ _ _ _ _ _ _ _ _ _ _ _ _ _ _ _ _ _ _ _ _ _ _
   | exact offertoryref09_Bin.mono _ _ _ _ _ _
   | exact LeO.none _
   | refine LeO.ite ?_ ?_
   | refine LeO.bind ?_ (fun _ => ?_)
def offertoryref09_Stats.T6 : Bool × List (List Nat × List Nat) := (true, [([], []), ([0], [0]), ([], []), ([], []), ([], []), ([3, 4], [3, 4]), ([5], [5]), ([2, 6], [2, 6]), ([1, 7], [1, 7]), ([8], [8]), ([9], [9]), ([1, 7, 0, 1, 2, 3, 4, 5, 6, 7, 8, 9, 10], [1, 7]), ([11, 10, 7, 0, 1, 2, 3, 4, 5, 6, 7, 8, 9, 10], [10, 11])])
def offertoryref09_Stats.B6 : List Nat := [0, 1, 0, 0, 0, 24, 56, 124, 255, 511, 1023, 2047, 4095]
theorem offertoryref09_Stats.tab6 : rtab .any (opsOf Try.f12 6) = offertoryref09_Stats.T6 := by kernel_rfl
theorem offertoryref09_Stats.bits6 : waitsOk offertoryref09_Stats.T6.2 offertoryref09_Stats.B6 = true := by kernel_rfl
def offertoryref09_Stats.T7 : Bool × List (List Nat × List Nat) := (true, [([], []), ([], []), ([], []), ([1, 2], [1, 2]), ([3], [3]), ([0, 4], [0, 4]), ([5, 5], [5]), ([], []), ([7, 6, 6, 0, 1, 2, 3, 4, 5, 6, 7], [6, 7])])
def offertoryref09_Stats.B7 : List Nat := [0, 0, 0, 6, 14, 31, 63, 0, 255]
theorem offertoryref09_Stats.tab7 : rtab .any (opsOf Try.f12 7) = offertoryref09_Stats.T7 := by kernel_rfl
theorem offertoryref09_Stats.bits7 : waitsOk offertoryref09_Stats.T7.2 offertoryref09_Stats.B7 = true := by kernel_rfl
def offertoryref09_Stats.T8 : Bool × List (List Nat × List Nat) := (true, [([], []), ([], []), ([0, 1], [0, 1]), ([], []), ([], []), ([], []), ([4, 5, 2], [4, 5]), ([3, 6, 6], [3, 6]), ([2, 7, 0, 1, 2], [2]), ([7, 8, 0, 1, 2, 3, 4, 5, 6, 7, 8], [7])])
def offertoryref09_Stats.B8 : List Nat := [0, 0, 3, 0, 0, 0, 55, 127, 255, 511]
theorem offertoryref09_Stats.tab8 : rtab .any (opsOf Try.f12 8) = offertoryref09_Stats.T8 := by kernel_rfl
theorem offertoryref09_Stats.bits8 : waitsOk offertoryref09_Stats.T8.2 offertoryref09_Stats.B8 = true := by kernel_rfl
set_option maxHeartbeats 8000000 in
set_option maxRecDepth 100000 in
theorem offertoryref09_Stats.calls (k : Nat) (a0_0 : Int) (a0_1 : Int) (a0_2 : Int) (A0_3 : Option Addr) (c0_3 : Nat) (l0_3 : List Int) (A1 : Option Addr) (c1 : Nat) (l1 : List Int) (r1 : List Int) (r2 : Int) (r3 : Int) (r4 : Int) (r5 : Int) (r6 : Int) (r7 : Bool) (w : World) (hr0_3 : Kd.C (Kd.int .i64) w A0_3 l0_3.length l0_3) (hc0_3 : l0_3.length ≤ c0_3) (hr1 : Kd.C (Kd.int .i64) w A1 l1.length l1) (hc1 : l1.length ≤ c1) (h : offertoryref09_Stats.f k a0_0 a0_1 a0_2 l0_3 l1 = some (r1, r2, r3, r4, r5, r6, r7)) :
  Calls Try.prog 12 #[.agg #[.int .i64 a0_0, .int .i64 a0_1, .int .i64 a0_2, .slice A0_3 l0_3.length c0_3], .slice A1 l1.length c1] w fun e w' => ∃ v0_ : Value, e = .returned (.agg #[v0_, .int .i64 r2, .int .u64 r3, .int .u64 r4, .int .u64 r5, .int .u64 r6, .bool r7]) ∧ Kd.R (Kd.int .i64) 3 w' w.heap.size (fun _ => True) v0_ r1 ∧ Below w.heap.size w w' := by
 have hu24 := Try.underlying24
 have hu29 := Try.underlying29
 have hu45 := Try.underlying45
 have hu27 := Try.underlying27
 have HR0_3 := Aside0.mk hr0_3
 have HC0_3 := Aside0.mk hc0_3
 clear hr0_3 hc0_3
 have HR1 := Aside0.mk hr1
 have HC1 := Aside0.mk hc1
 clear hr1 hc1
 have HB := Aside0.mk (Below.refl w.heap.size w)
 have H : (if 0 ≤ (wrap64 ((l0_3.length : Int) + 1)) then (if (wrap64 ((l0_3.length : Int) + 1) : Int).toNat ≤ 35184372088832 then (offertoryref09_Stats.l0 k l1 0 a0_0 a0_1 a0_2 l0_3 (List.replicate (wrap64 ((l0_3.length : Int) + 1) : Int).toNat 0) (l1.length : Int) 0 0 0 0 false 0 0 0 0 0 0 0 0 0 0 0 0 0 0 0 0) else (none)) else (none)) = some (r1, r2, r3, r4, r5, r6, r7) := h
 clear h
 obtain ⟨ji3, hji3⟩ : ∃ j_ : Int, (wrap64 ((l0_3.length : Int) + 1)) = j_ := ⟨_, rfl⟩
 replace H : (if 0 ≤ (ji3) then (if (ji3 : Int).toNat ≤ 35184372088832 then (offertoryref09_Stats.l0 k l1 0 a0_0 a0_1 a0_2 l0_3 (List.replicate (ji3 : Int).toNat 0) (l1.length : Int) 0 0 0 0 false 0 0 0 0 0 0 0 0 0 0 0 0 0 0 0 0) else (none)) else (none)) = some (r1, r2, r3, r4, r5, r6, r7) := by first | (rw [hji3] at H; exact H) | (simp only [hji3] at H ⊢; exact H)
 have hji3w : (IntKind.i64.wrap ((l0_3.length : Int) + 1)) = ji3 := (i64_w _).trans hji3
 by_cases c4 : 0 ≤ (ji3)
 ·
  rw [if_pos c4] at H
  have c4b0 := eq_true c4
  have c4b1 : decide (0 ≤ (ji3)) = true := decide_eq_true c4
  clear c4
  by_cases c5 : (ji3 : Int).toNat ≤ 35184372088832
  ·
   rw [if_pos c5] at H
   have c5b0 := eq_true c5
   have c5b1 : decide ((ji3 : Int).toNat ≤ 35184372088832) = true := decide_eq_true c5
   clear c5
   obtain ⟨y246, hy246⟩ : ∃ y_ : List Int, y_ = (List.replicate (ji3 : Int).toNat 0) := ⟨_, rfl⟩
   replace H : (offertoryref09_Stats.l0 k l1 0 a0_0 a0_1 a0_2 l0_3 y246 (l1.length : Int) 0 0 0 0 false 0 0 0 0 0 0 0 0 0 0 0 0 0 0 0 0) = some (r1, r2, r3, r4, r5, r6, r7) := by first | (rw [hy246]; with_reducible exact H) | (have H2_ := (Option.bind_some _ _).symm.trans H; rw [hy246]; with_reducible exact H2_) | (have H2_ := (Option.bind_some _ _).symm.trans H; with_reducible exact H2_) | with_reducible exact H | (rw [hy246]; exact H) | exact H
   have Ny246 := Aside0.mk hy246
   clear hy246
   have H' := Aside0.mk H
   clear H
   go_enter Try.func12, Try.ntmps12
   go_wp2_with (first | ((with_reducible refine gate_dst (N := 2) rfl ?_); refine box_event ?hg (N := 2) ?hd (cs := #[.int .i64 a0_0, .int .i64 a0_1, .int .i64 a0_2, .slice A0_3 l0_3.length c0_3]) (t := 24) ?hr ?_; (case hd => rfl); (case hg => rfl); (case hr => first | (go_simp; done) | (go_simp; rfl)); intro gb244 hg w6 hbox hb; have n0_ := Aside0.mk (below_step (by repeat (first | (with_reducible first | exact HB.out | apply below_alloc | apply pw_below_drewN | apply below_drew1) | exact HB.out)) hb); have n1_ := Aside0.mk (hbox); have n2_ := Aside0.mk ((by rw [hg]; exact (below_size (by repeat (first | (with_reducible first | exact HB.out | apply below_alloc | apply pw_below_drewN | apply below_drew1) | exact HB.out))) : w.heap.size ≤ gb244)); have n3_ := Aside0.mk ((by rw [hg]; exact (below_size (by repeat (first | (with_reducible first | exact HB.out | apply below_alloc | apply pw_below_drewN | apply below_drew1) | exact HB.out))) : w.heap.size ≤ gb244)); clear HB; have HB := n0_; have BK244 := n1_; have GW244 := n2_; have GE244 := n3_; clear n0_ n1_ n2_ n3_; clear hb hbox hg) | ((with_reducible refine gate_dst (N := 4) rfl ?_); refine box_event ?hg (N := 4) ?hd (cs := #[.slice none 0 0, .int .i64 0, .int .u64 0, .int .u64 0, .int .u64 0, .int .u64 0, .bool false]) (t := 29) ?hr ?_; (case hd => rfl); (case hg => rfl); (case hr => first | (go_simp; done) | (go_simp; rfl)); intro gb245 hg w7 hbox hb; have n0_ := offertoryref09_Stats.keepB BK244 hb; have n1_ := Aside0.mk (below_step (by repeat (first | (with_reducible first | exact HB.out | apply below_alloc | apply pw_below_drewN | apply below_drew1 | refine below_set ?_ GE244.out) | exact HB.out)) hb); have n2_ := Aside0.mk (hbox); have n3_ := Aside0.mk ((by rw [hg]; exact (below_size (by repeat (first | (with_reducible first | exact HB.out | apply below_alloc | apply pw_below_drewN | apply below_drew1 | refine below_set ?_ GE244.out) | exact HB.out))) : w.heap.size ≤ gb245)); have n4_ := Aside0.mk ((by rw [hg]; exact (below_size (by repeat (first | (with_reducible first | exact HB.out | apply below_alloc | apply pw_below_drewN | apply below_drew1 | refine below_set ?_ GE244.out) | exact HB.out))) : w.heap.size ≤ gb245)); have n5_ := offertoryref09_Stats.neL BK244 hg; have n6_ := offertoryref09_Stats.neG BK244 hg; clear BK244; clear HB; have BK244 := n0_; have HB := n1_; have BK245 := n2_; have GW245 := n3_; have GE245 := n4_; have NB244_245 := n5_; have NB245_244 := n6_; clear n0_ n1_ n2_ n3_ n4_ n5_ n6_; clear hb hbox hg; have hnb8 := NB244_245.out; have hnc8 := NB245_244.out; have hcz9_0 : w7.cell? ⟨gb244, 0, none⟩ = some (.int .i64 a0_0) := (blk_cell BK244.out 0).trans rfl; have hcz9_1 : w7.cell? ⟨gb244, 1, none⟩ = some (.int .i64 a0_1) := (blk_cell BK244.out 1).trans rfl; have hcz9_2 : w7.cell? ⟨gb244, 2, none⟩ = some (.int .i64 a0_2) := (blk_cell BK244.out 2).trans rfl; have hcz9_3 : w7.cell? ⟨gb244, 3, none⟩ = some (.slice A0_3 l0_3.length c0_3) := (blk_cell BK244.out 3).trans rfl; have hfz9_0 := blk_frozen BK244.out 0; have hfz9_1 := blk_frozen BK244.out 1; have hfz9_2 := blk_frozen BK244.out 2; have hfz9_3 := blk_frozen BK244.out 3) | ((with_reducible refine gate_dst (N := 14) rfl ?_); refine Kd.R_make (Kd.int .i64) _ 3 rfl (N := 14) rfl 22 _ _ rfl ji3 rfl rfl Try.underlying22 (.int .i64 0) 8 info3 rfl (by decide) (by omega) 0 (ok := fun _ => True) (okp := fun _ => True) rfl (fun _ hk => hk) trivial (of_decide_eq_true (by first | (with_reducible assumption) | assumption)) (Nat.le_trans (Nat.mul_le_mul_right _ (of_decide_eq_true (by first | (with_reducible assumption) | assumption) : ji3.toNat ≤ 35184372088832)) (by omega)) (Below.refl _ _) (Nat.le_refl _) ?_; intro v247 w10 ho11 hb hg_ hnew_; clear hg_ hnew_; (first | rw [← Ny246.out] at ho11 | (simp only [Int.reduceToNat] at ho11; rw [← Ny246.out] at ho11)); have n0_ := Aside0.mk (Kd.R_lower ho11 (below_size (by repeat (first | (with_reducible first | exact HB.out | apply below_alloc | apply pw_below_drewN | apply below_drew1 | refine below_set ?_ GE244.out | refine below_set ?_ GE245.out) | exact HB.out)))); have n1_ := offertoryref09_Stats.keepB BK244 hb; have n2_ := offertoryref09_Stats.keepB BK245 hb; have n3_ := Aside0.mk (below_step (by repeat (first | (with_reducible first | exact HB.out | apply below_alloc | apply pw_below_drewN | apply below_drew1 | refine below_set ?_ GE244.out | refine below_set ?_ GE245.out) | exact HB.out)) hb); clear BK244; clear BK245; clear HB; have HO248 := n0_; have BK244 := n1_; have BK245 := n2_; have HB := n3_; clear n0_ n1_ n2_ n3_; clear hb ho11; obtain ⟨Ao12, co12, eo12⟩ := Kd.R_slice HO248.out; subst eo12) | ((with_reducible refine gate_dst (N := 5) rfl ?_); refine box_event ?hg (N := 5) ?hd (cs := #[.slice none 0 0, .int .i64 0, .int .u64 0, .int .u64 0, .int .u64 0, .int .u64 0, .bool false]) (t := 29) ?hr ?_; (case hd => rfl); (case hg => rfl); (case hr => first | (go_simp; done) | (go_simp; rfl)); intro gb249 hg w13 hbox hb; have n0_ := Aside0.mk (Kd.R_below (by (with_reducible repeat (first | apply Kd.R_alloc | apply Kd.R_drewN | apply Kd.R_drew)); exact HO248.out) hb); have n1_ := offertoryref09_Stats.keepB BK244 hb; have n2_ := offertoryref09_Stats.keepB BK245 hb; have n3_ := Aside0.mk (below_step (by repeat (first | (with_reducible first | exact HB.out | apply below_alloc | apply pw_below_drewN | apply below_drew1 | refine below_set ?_ GE244.out | refine below_set ?_ GE245.out) | exact HB.out)) hb); have n4_ := Aside0.mk (hbox); have n5_ := Aside0.mk ((by rw [hg]; exact (below_size (by repeat (first | (with_reducible first | exact HB.out | apply below_alloc | apply pw_below_drewN | apply below_drew1 | refine below_set ?_ GE244.out | refine below_set ?_ GE245.out) | exact HB.out))) : w.heap.size ≤ gb249)); have n6_ := Aside0.mk ((by rw [hg]; exact (below_size (by repeat (first | (with_reducible first | exact HB.out | apply below_alloc | apply pw_below_drewN | apply below_drew1 | refine below_set ?_ GE244.out | refine below_set ?_ GE245.out) | exact HB.out))) : w.heap.size ≤ gb249)); have n7_ := offertoryref09_Stats.neL BK244 hg; have n8_ := offertoryref09_Stats.neG BK244 hg; have n9_ := offertoryref09_Stats.neL BK245 hg; have n10_ := offertoryref09_Stats.neG BK245 hg; clear HO248; clear BK244; clear BK245; clear HB; have HO248 := n0_; have BK244 := n1_; have BK245 := n2_; have HB := n3_; have BK249 := n4_; have GW249 := n5_; have GE249 := n6_; have NB244_249 := n7_; have NB249_244 := n8_; have NB245_249 := n9_; have NB249_245 := n10_; clear n0_ n1_ n2_ n3_ n4_ n5_ n6_ n7_ n8_ n9_ n10_; clear hb hbox hg; have hnb14 := NB249_244.out; have hnc14 := NB244_249.out; have hnb15 := NB249_245.out; have hnc15 := NB245_249.out; have hcz16_0 : w13.cell? ⟨gb249, 0, none⟩ = some (.slice none 0 0) := (blk_cell BK249.out 0).trans rfl; have hcz16_1 : w13.cell? ⟨gb249, 1, none⟩ = some (.int .i64 0) := (blk_cell BK249.out 1).trans rfl; have hcz16_2 : w13.cell? ⟨gb249, 2, none⟩ = some (.int .u64 0) := (blk_cell BK249.out 2).trans rfl; have hcz16_3 : w13.cell? ⟨gb249, 3, none⟩ = some (.int .u64 0) := (blk_cell BK249.out 3).trans rfl; have hcz16_4 : w13.cell? ⟨gb249, 4, none⟩ = some (.int .u64 0) := (blk_cell BK249.out 4).trans rfl; have hcz16_5 : w13.cell? ⟨gb249, 5, none⟩ = some (.int .u64 0) := (blk_cell BK249.out 5).trans rfl; have hcz16_6 : w13.cell? ⟨gb249, 6, none⟩ = some (.bool false) := (blk_cell BK249.out 6).trans rfl; have hfz16_0 := blk_frozen BK249.out 0; have hfz16_1 := blk_frozen BK249.out 1; have hfz16_2 := blk_frozen BK249.out 2; have hfz16_3 := blk_frozen BK249.out 3; have hfz16_4 := blk_frozen BK249.out 4; have hfz16_5 := blk_frozen BK249.out 5; have hfz16_6 := blk_frozen BK249.out 6) | ((with_reducible refine gate_dst (N := 6) rfl ?_); refine box_event ?hg (N := 6) ?hd (cs := #[.int .u32 0, .int .u32 0, .int .u32 0, .int .u32 0, .int .u32 0, .int .u32 0, .int .u32 0, .int .u32 0]) (t := 45) ?hr ?_; (case hd => rfl); (case hg => rfl); (case hr => first | (go_simp; done) | (go_simp; rfl)); intro gb250 hg w17 hbox hb; have n0_ := Aside0.mk (Kd.R_below (by (with_reducible repeat (first | apply Kd.R_alloc | apply Kd.R_drewN | apply Kd.R_drew)); exact (Kd.R_mono (Kd.R_far (p := ⟨gb249, 6, none⟩) (Kd.R_far (p := ⟨gb249, 5, none⟩) (Kd.R_far (p := ⟨gb249, 4, none⟩) (Kd.R_far (p := ⟨gb249, 3, none⟩) (Kd.R_far (p := ⟨gb249, 2, none⟩) (Kd.R_far (p := ⟨gb249, 1, none⟩) (Kd.R_far (p := ⟨gb249, 0, none⟩) (Kd.R_types HO248.out BK249.out (by decide)) (fun _ hk => hk.2) (.slice Ao12 y246.length co12)) (fun _ hk => hk.2) (.int .i64 (l1.length : Int))) (fun _ hk => hk.2) (.int .u64 0)) (fun _ hk => hk.2) (.int .u64 0)) (fun _ hk => hk.2) (.int .u64 0)) (fun _ hk => hk.2) (.int .u64 0)) (fun _ hk => hk.2) (.bool false)) (fun _ h_ => h_.1))) hb); have n1_ := Aside0.mk (blk_below (g := gb244) (o := .cells #[.int .i64 a0_0, .int .i64 a0_1, .int .i64 a0_2, .slice A0_3 l0_3.length c0_3] 24 (0, 0)) (by (repeat (first | (with_reducible first | refine blk_drewN ?_ _ | refine blk_drew ?_ | refine blk_alloc ?_ _) | refine blk_far ?_ NB244_249.out _)); (with_reducible repeat (first | refine blk_drewN ?_ _ | refine blk_drew ?_ | refine blk_alloc ?_ _)); exact BK244.out) hb); have n2_ := Aside0.mk (blk_below (g := gb245) (o := .cells #[.slice none 0 0, .int .i64 0, .int .u64 0, .int .u64 0, .int .u64 0, .int .u64 0, .bool false] 29 (0, 0)) (by (repeat (first | (with_reducible first | refine blk_drewN ?_ _ | refine blk_drew ?_ | refine blk_alloc ?_ _) | refine blk_far ?_ NB245_249.out _)); (with_reducible repeat (first | refine blk_drewN ?_ _ | refine blk_drew ?_ | refine blk_alloc ?_ _)); exact BK245.out) hb); have n3_ := Aside0.mk (blk_below (g := gb249) (o := .cells #[.slice Ao12 y246.length co12, .int .i64 (l1.length : Int), .int .u64 0, .int .u64 0, .int .u64 0, .int .u64 0, .bool false] 29 (0, 0)) (by (with_reducible repeat (first | refine blk_drewN ?_ _ | refine blk_drew ?_ | refine blk_alloc ?_ _)); refine blk_put (cs := #[.slice Ao12 y246.length co12, .int .i64 (l1.length : Int), .int .u64 0, .int .u64 0, .int .u64 0, .int .u64 0, .bool false]) ?_ 6 _ rfl; (with_reducible repeat (first | refine blk_drewN ?_ _ | refine blk_drew ?_ | refine blk_alloc ?_ _)); refine blk_put (cs := #[.slice Ao12 y246.length co12, .int .i64 (l1.length : Int), .int .u64 0, .int .u64 0, .int .u64 0, .int .u64 0, .bool false]) ?_ 5 _ rfl; (with_reducible repeat (first | refine blk_drewN ?_ _ | refine blk_drew ?_ | refine blk_alloc ?_ _)); refine blk_put (cs := #[.slice Ao12 y246.length co12, .int .i64 (l1.length : Int), .int .u64 0, .int .u64 0, .int .u64 0, .int .u64 0, .bool false]) ?_ 4 _ rfl; (with_reducible repeat (first | refine blk_drewN ?_ _ | refine blk_drew ?_ | refine blk_alloc ?_ _)); refine blk_put (cs := #[.slice Ao12 y246.length co12, .int .i64 (l1.length : Int), .int .u64 0, .int .u64 0, .int .u64 0, .int .u64 0, .bool false]) ?_ 3 _ rfl; (with_reducible repeat (first | refine blk_drewN ?_ _ | refine blk_drew ?_ | refine blk_alloc ?_ _)); refine blk_put (cs := #[.slice Ao12 y246.length co12, .int .i64 (l1.length : Int), .int .u64 0, .int .u64 0, .int .u64 0, .int .u64 0, .bool false]) ?_ 2 _ rfl; (with_reducible repeat (first | refine blk_drewN ?_ _ | refine blk_drew ?_ | refine blk_alloc ?_ _)); refine blk_put (cs := #[.slice Ao12 y246.length co12, .int .i64 0, .int .u64 0, .int .u64 0, .int .u64 0, .int .u64 0, .bool false]) ?_ 1 _ rfl; (with_reducible repeat (first | refine blk_drewN ?_ _ | refine blk_drew ?_ | refine blk_alloc ?_ _)); refine blk_put (cs := #[.slice none 0 0, .int .i64 0, .int .u64 0, .int .u64 0, .int .u64 0, .int .u64 0, .bool false]) ?_ 0 _ rfl; (with_reducible repeat (first | refine blk_drewN ?_ _ | refine blk_drew ?_ | refine blk_alloc ?_ _)); exact BK249.out) hb); have n4_ := Aside0.mk (below_step (by repeat (first | (with_reducible first | exact HB.out | apply below_alloc | apply pw_below_drewN | apply below_drew1 | refine below_set ?_ GE244.out | refine below_set ?_ GE245.out | refine below_set ?_ GE249.out) | exact HB.out)) hb); have n5_ := Aside0.mk (hbox); have n6_ := Aside0.mk ((by rw [hg]; exact (below_size (by repeat (first | (with_reducible first | exact HB.out | apply below_alloc | apply pw_below_drewN | apply below_drew1 | refine below_set ?_ GE244.out | refine below_set ?_ GE245.out | refine below_set ?_ GE249.out) | exact HB.out))) : w.heap.size ≤ gb250)); have n7_ := Aside0.mk ((by rw [hg]; exact (below_size (by repeat (first | (with_reducible first | exact HB.out | apply below_alloc | apply pw_below_drewN | apply below_drew1 | refine below_set ?_ GE244.out | refine below_set ?_ GE245.out | refine below_set ?_ GE249.out) | exact HB.out))) : w.heap.size ≤ gb250)); have n8_ := Aside0.mk ((by rw [hg]; exact Nat.ne_of_lt (blk_lt (g := gb244) (o := .cells #[.int .i64 a0_0, .int .i64 a0_1, .int .i64 a0_2, .slice A0_3 l0_3.length c0_3] 24 (0, 0)) (by (repeat (first | (with_reducible first | refine blk_drewN ?_ _ | refine blk_drew ?_ | refine blk_alloc ?_ _) | refine blk_far ?_ NB244_249.out _)); (with_reducible repeat (first | refine blk_drewN ?_ _ | refine blk_drew ?_ | refine blk_alloc ?_ _)); exact BK244.out)) : gb244 ≠ gb250)); have n9_ := Aside0.mk ((by rw [hg]; exact Nat.ne_of_gt (blk_lt (g := gb244) (o := .cells #[.int .i64 a0_0, .int .i64 a0_1, .int .i64 a0_2, .slice A0_3 l0_3.length c0_3] 24 (0, 0)) (by (repeat (first | (with_reducible first | refine blk_drewN ?_ _ | refine blk_drew ?_ | refine blk_alloc ?_ _) | refine blk_far ?_ NB244_249.out _)); (with_reducible repeat (first | refine blk_drewN ?_ _ | refine blk_drew ?_ | refine blk_alloc ?_ _)); exact BK244.out)) : gb250 ≠ gb244)); have n10_ := Aside0.mk ((by rw [hg]; exact Nat.ne_of_lt (blk_lt (g := gb245) (o := .cells #[.slice none 0 0, .int .i64 0, .int .u64 0, .int .u64 0, .int .u64 0, .int .u64 0, .bool false] 29 (0, 0)) (by (repeat (first | (with_reducible first | refine blk_drewN ?_ _ | refine blk_drew ?_ | refine blk_alloc ?_ _) | refine blk_far ?_ NB245_249.out _)); (with_reducible repeat (first | refine blk_drewN ?_ _ | refine blk_drew ?_ | refine blk_alloc ?_ _)); exact BK245.out)) : gb245 ≠ gb250)); have n11_ := Aside0.mk ((by rw [hg]; exact Nat.ne_of_gt (blk_lt (g := gb245) (o := .cells #[.slice none 0 0, .int .i64 0, .int .u64 0, .int .u64 0, .int .u64 0, .int .u64 0, .bool false] 29 (0, 0)) (by (repeat (first | (with_reducible first | refine blk_drewN ?_ _ | refine blk_drew ?_ | refine blk_alloc ?_ _) | refine blk_far ?_ NB245_249.out _)); (with_reducible repeat (first | refine blk_drewN ?_ _ | refine blk_drew ?_ | refine blk_alloc ?_ _)); exact BK245.out)) : gb250 ≠ gb245)); have n12_ := Aside0.mk ((by rw [hg]; exact Nat.ne_of_lt (blk_lt (g := gb249) (o := .cells #[.slice Ao12 y246.length co12, .int .i64 (l1.length : Int), .int .u64 0, .int .u64 0, .int .u64 0, .int .u64 0, .bool false] 29 (0, 0)) (by (with_reducible repeat (first | refine blk_drewN ?_ _ | refine blk_drew ?_ | refine blk_alloc ?_ _)); refine blk_put (cs := #[.slice Ao12 y246.length co12, .int .i64 (l1.length : Int), .int .u64 0, .int .u64 0, .int .u64 0, .int .u64 0, .bool false]) ?_ 6 _ rfl; (with_reducible repeat (first | refine blk_drewN ?_ _ | refine blk_drew ?_ | refine blk_alloc ?_ _)); refine blk_put (cs := #[.slice Ao12 y246.length co12, .int .i64 (l1.length : Int), .int .u64 0, .int .u64 0, .int .u64 0, .int .u64 0, .bool false]) ?_ 5 _ rfl; (with_reducible repeat (first | refine blk_drewN ?_ _ | refine blk_drew ?_ | refine blk_alloc ?_ _)); refine blk_put (cs := #[.slice Ao12 y246.length co12, .int .i64 (l1.length : Int), .int .u64 0, .int .u64 0, .int .u64 0, .int .u64 0, .bool false]) ?_ 4 _ rfl; (with_reducible repeat (first | refine blk_drewN ?_ _ | refine blk_drew ?_ | refine blk_alloc ?_ _)); refine blk_put (cs := #[.slice Ao12 y246.length co12, .int .i64 (l1.length : Int), .int .u64 0, .int .u64 0, .int .u64 0, .int .u64 0, .bool false]) ?_ 3 _ rfl; (with_reducible repeat (first | refine blk_drewN ?_ _ | refine blk_drew ?_ | refine blk_alloc ?_ _)); refine blk_put (cs := #[.slice Ao12 y246.length co12, .int .i64 (l1.length : Int), .int .u64 0, .int .u64 0, .int .u64 0, .int .u64 0, .bool false]) ?_ 2 _ rfl; (with_reducible repeat (first | refine blk_drewN ?_ _ | refine blk_drew ?_ | refine blk_alloc ?_ _)); refine blk_put (cs := #[.slice Ao12 y246.length co12, .int .i64 0, .int .u64 0, .int .u64 0, .int .u64 0, .int .u64 0, .bool false]) ?_ 1 _ rfl; (with_reducible repeat (first | refine blk_drewN ?_ _ | refine blk_drew ?_ | refine blk_alloc ?_ _)); refine blk_put (cs := #[.slice none 0 0, .int .i64 0, .int .u64 0, .int .u64 0, .int .u64 0, .int .u64 0, .bool false]) ?_ 0 _ rfl; (with_reducible repeat (first | refine blk_drewN ?_ _ | refine blk_drew ?_ | refine blk_alloc ?_ _)); exact BK249.out)) : gb249 ≠ gb250)); have n13_ := Aside0.mk ((by rw [hg]; exact Nat.ne_of_gt (blk_lt (g := gb249) (o := .cells #[.slice Ao12 y246.length co12, .int .i64 (l1.length : Int), .int .u64 0, .int .u64 0, .int .u64 0, .int .u64 0, .bool false] 29 (0, 0)) (by (with_reducible repeat (first | refine blk_drewN ?_ _ | refine blk_drew ?_ | refine blk_alloc ?_ _)); refine blk_put (cs := #[.slice Ao12 y246.length co12, .int .i64 (l1.length : Int), .int .u64 0, .int .u64 0, .int .u64 0, .int .u64 0, .bool false]) ?_ 6 _ rfl; (with_reducible repeat (first | refine blk_drewN ?_ _ | refine blk_drew ?_ | refine blk_alloc ?_ _)); refine blk_put (cs := #[.slice Ao12 y246.length co12, .int .i64 (l1.length : Int), .int .u64 0, .int .u64 0, .int .u64 0, .int .u64 0, .bool false]) ?_ 5 _ rfl; (with_reducible repeat (first | refine blk_drewN ?_ _ | refine blk_drew ?_ | refine blk_alloc ?_ _)); refine blk_put (cs := #[.slice Ao12 y246.length co12, .int .i64 (l1.length : Int), .int .u64 0, .int .u64 0, .int .u64 0, .int .u64 0, .bool false]) ?_ 4 _ rfl; (with_reducible repeat (first | refine blk_drewN ?_ _ | refine blk_drew ?_ | refine blk_alloc ?_ _)); refine blk_put (cs := #[.slice Ao12 y246.length co12, .int .i64 (l1.length : Int), .int .u64 0, .int .u64 0, .int .u64 0, .int .u64 0, .bool false]) ?_ 3 _ rfl; (with_reducible repeat (first | refine blk_drewN ?_ _ | refine blk_drew ?_ | refine blk_alloc ?_ _)); refine blk_put (cs := #[.slice Ao12 y246.length co12, .int .i64 (l1.length : Int), .int .u64 0, .int .u64 0, .int .u64 0, .int .u64 0, .bool false]) ?_ 2 _ rfl; (with_reducible repeat (first | refine blk_drewN ?_ _ | refine blk_drew ?_ | refine blk_alloc ?_ _)); refine blk_put (cs := #[.slice Ao12 y246.length co12, .int .i64 0, .int .u64 0, .int .u64 0, .int .u64 0, .int .u64 0, .bool false]) ?_ 1 _ rfl; (with_reducible repeat (first | refine blk_drewN ?_ _ | refine blk_drew ?_ | refine blk_alloc ?_ _)); refine blk_put (cs := #[.slice none 0 0, .int .i64 0, .int .u64 0, .int .u64 0, .int .u64 0, .int .u64 0, .bool false]) ?_ 0 _ rfl; (with_reducible repeat (first | refine blk_drewN ?_ _ | refine blk_drew ?_ | refine blk_alloc ?_ _)); exact BK249.out)) : gb250 ≠ gb249)); clear HO248; clear BK244; clear BK245; clear BK249; clear HB; have HO248 := n0_; have BK244 := n1_; have BK245 := n2_; have BK249 := n3_; have HB := n4_; have BK250 := n5_; have GW250 := n6_; have GE250 := n7_; have NB244_250 := n8_; have NB250_244 := n9_; have NB245_250 := n10_; have NB250_245 := n11_; have NB249_250 := n12_; have NB250_249 := n13_; clear n0_ n1_ n2_ n3_ n4_ n5_ n6_ n7_ n8_ n9_ n10_ n11_ n12_ n13_; clear hb hbox hg) | ((with_reducible refine gate_dst (N := 7) rfl ?_); refine box_event ?hg (N := 7) ?hd (cs := #[.int .u32 0, .int .u32 0, .int .u32 0, .int .u32 0, .int .u32 0, .int .u32 0, .int .u32 0, .int .u32 0]) (t := 45) ?hr ?_; (case hd => rfl); (case hg => rfl); (case hr => first | (go_simp; done) | (go_simp; rfl)); intro gb251 hg w18 hbox hb; have n0_ := Aside0.mk (Kd.R_below (by (with_reducible repeat (first | apply Kd.R_alloc | apply Kd.R_drewN | apply Kd.R_drew)); exact HO248.out) hb); have n1_ := offertoryref09_Stats.keepB BK244 hb; have n2_ := offertoryref09_Stats.keepB BK245 hb; have n3_ := offertoryref09_Stats.keepB BK249 hb; have n4_ := offertoryref09_Stats.keepB BK250 hb; have n5_ := Aside0.mk (below_step (by repeat (first | (with_reducible first | exact HB.out | apply below_alloc | apply pw_below_drewN | apply below_drew1 | refine below_set ?_ GE244.out | refine below_set ?_ GE245.out | refine below_set ?_ GE249.out | refine below_set ?_ GE250.out) | exact HB.out)) hb); have n6_ := Aside0.mk (hbox); have n7_ := Aside0.mk ((by rw [hg]; exact (below_size (by repeat (first | (with_reducible first | exact HB.out | apply below_alloc | apply pw_below_drewN | apply below_drew1 | refine below_set ?_ GE244.out | refine below_set ?_ GE245.out | refine below_set ?_ GE249.out | refine below_set ?_ GE250.out) | exact HB.out))) : w.heap.size ≤ gb251)); have n8_ := Aside0.mk ((by rw [hg]; exact (below_size (by repeat (first | (with_reducible first | exact HB.out | apply below_alloc | apply pw_below_drewN | apply below_drew1 | refine below_set ?_ GE244.out | refine below_set ?_ GE245.out | refine below_set ?_ GE249.out | refine below_set ?_ GE250.out) | exact HB.out))) : w.heap.size ≤ gb251)); have n9_ := offertoryref09_Stats.neL BK244 hg; have n10_ := offertoryref09_Stats.neG BK244 hg; have n11_ := offertoryref09_Stats.neL BK245 hg; have n12_ := offertoryref09_Stats.neG BK245 hg; have n13_ := offertoryref09_Stats.neL BK249 hg; have n14_ := offertoryref09_Stats.neG BK249 hg; have n15_ := offertoryref09_Stats.neL BK250 hg; have n16_ := offertoryref09_Stats.neG BK250 hg; clear HO248; clear BK244; clear BK245; clear BK249; clear BK250; clear HB; have HO248 := n0_; have BK244 := n1_; have BK245 := n2_; have BK249 := n3_; have BK250 := n4_; have HB := n5_; have BK251 := n6_; have GW251 := n7_; have GE251 := n8_; have NB244_251 := n9_; have NB251_244 := n10_; have NB245_251 := n11_; have NB251_245 := n12_; have NB249_251 := n13_; have NB251_249 := n14_; have NB250_251 := n15_; have NB251_250 := n16_; clear n0_ n1_ n2_ n3_ n4_ n5_ n6_ n7_ n8_ n9_ n10_ n11_ n12_ n13_ n14_ n15_ n16_; clear hb hbox hg; have hnb19 := NB250_244.out; have hnc19 := NB244_250.out; have hnb20 := NB250_245.out; have hnc20 := NB245_250.out; have hnb21 := NB250_249.out; have hnc21 := NB249_250.out; have hnb22 := NB250_251.out; have hnc22 := NB251_250.out; have hcz23_0 : w18.cell? ⟨gb250, 0, none⟩ = some (.int .u32 0) := (blk_cell BK250.out 0).trans rfl; have hcz23_1 : w18.cell? ⟨gb250, 1, none⟩ = some (.int .u32 0) := (blk_cell BK250.out 1).trans rfl; have hcz23_2 : w18.cell? ⟨gb250, 2, none⟩ = some (.int .u32 0) := (blk_cell BK250.out 2).trans rfl; have hcz23_3 : w18.cell? ⟨gb250, 3, none⟩ = some (.int .u32 0) := (blk_cell BK250.out 3).trans rfl; have hcz23_4 : w18.cell? ⟨gb250, 4, none⟩ = some (.int .u32 0) := (blk_cell BK250.out 4).trans rfl; have hcz23_5 : w18.cell? ⟨gb250, 5, none⟩ = some (.int .u32 0) := (blk_cell BK250.out 5).trans rfl; have hcz23_6 : w18.cell? ⟨gb250, 6, none⟩ = some (.int .u32 0) := (blk_cell BK250.out 6).trans rfl; have hcz23_7 : w18.cell? ⟨gb250, 7, none⟩ = some (.int .u32 0) := (blk_cell BK250.out 7).trans rfl; have hfz23_0 := blk_frozen BK250.out 0; have hfz23_1 := blk_frozen BK250.out 1; have hfz23_2 := blk_frozen BK250.out 2; have hfz23_3 := blk_frozen BK250.out 3; have hfz23_4 := blk_frozen BK250.out 4; have hfz23_5 := blk_frozen BK250.out 5; have hfz23_6 := blk_frozen BK250.out 6; have hfz23_7 := blk_frozen BK250.out 7; have hnb24 := NB251_244.out; have hnc24 := NB244_251.out; have hnb25 := NB251_245.out; have hnc25 := NB245_251.out; have hnb26 := NB251_249.out; have hnc26 := NB249_251.out; have hcz27_0 : w18.cell? ⟨gb251, 0, none⟩ = some (.int .u32 0) := (blk_cell BK251.out 0).trans rfl; have hcz27_1 : w18.cell? ⟨gb251, 1, none⟩ = some (.int .u32 0) := (blk_cell BK251.out 1).trans rfl; have hcz27_2 : w18.cell? ⟨gb251, 2, none⟩ = some (.int .u32 0) := (blk_cell BK251.out 2).trans rfl; have hcz27_3 : w18.cell? ⟨gb251, 3, none⟩ = some (.int .u32 0) := (blk_cell BK251.out 3).trans rfl; have hcz27_4 : w18.cell? ⟨gb251, 4, none⟩ = some (.int .u32 0) := (blk_cell BK251.out 4).trans rfl; have hcz27_5 : w18.cell? ⟨gb251, 5, none⟩ = some (.int .u32 0) := (blk_cell BK251.out 5).trans rfl; have hcz27_6 : w18.cell? ⟨gb251, 6, none⟩ = some (.int .u32 0) := (blk_cell BK251.out 6).trans rfl; have hcz27_7 : w18.cell? ⟨gb251, 7, none⟩ = some (.int .u32 0) := (blk_cell BK251.out 7).trans rfl; have hfz27_0 := blk_frozen BK251.out 0; have hfz27_1 := blk_frozen BK251.out 1; have hfz27_2 := blk_frozen BK251.out 2; have hfz27_3 := blk_frozen BK251.out 3; have hfz27_4 := blk_frozen BK251.out 4; have hfz27_5 := blk_frozen BK251.out 5; have hfz27_6 := blk_frozen BK251.out 6; have hfz27_7 := blk_frozen BK251.out 7))
   go_loopg [8] k (fun kq v8 w' => ∃ (x8_1 : Int) (x250000_1 : List Int) (x251000_1 : Int) (x251001_1 : Int) (x251002_1 : Int) (x251003_1 : Int) (x251004_1 : Int) (x251005_1 : Int) (x251006_1 : Int) (x251007_1 : Int) (x252000_1 : Int) (x252001_1 : Int) (x252002_1 : Int) (x252003_1 : Int) (x252004_1 : Int) (x252005_1 : Int) (x252006_1 : Int) (x252007_1 : Int) (u250000 : Value), v8 = .int .i64 x8_1 ∧ Aside0 (offertoryref09_Stats.l0 kq l1 x8_1 a0_0 a0_1 a0_2 l0_3 x250000_1 (l1.length : Int) 0 0 0 0 false x251000_1 x251001_1 x251002_1 x251003_1 x251004_1 x251005_1 x251006_1 x251007_1 x252000_1 x252001_1 x252002_1 x252003_1 x252004_1 x252005_1 x252006_1 x252007_1 = some (r1, r2, r3, r4, r5, r6, r7)) ∧ Aside0 (kq ≤ k) ∧ Aside0 (Kd.R (Kd.int .i64) 3 w' w.heap.size (fun _ => True) u250000 x250000_1) ∧ Aside0 (w'.heap[gb244]? = some (.cells #[.int .i64 a0_0, .int .i64 a0_1, .int .i64 a0_2, (.slice A0_3 l0_3.length c0_3)] 24 (0, 0))) ∧ Aside0 (w'.heap[gb245]? = some (.cells #[(.slice none 0 0), .int .i64 0, .int .u64 0, .int .u64 0, .int .u64 0, .int .u64 0, .bool false] 29 (0, 0))) ∧ Aside0 (w'.heap[gb249]? = some (.cells #[u250000, .int .i64 (l1.length : Int), .int .u64 0, .int .u64 0, .int .u64 0, .int .u64 0, .bool false] 29 (0, 0))) ∧ Aside0 (w'.heap[gb250]? = some (.cells #[.int .u32 x251000_1, .int .u32 x251001_1, .int .u32 x251002_1, .int .u32 x251003_1, .int .u32 x251004_1, .int .u32 x251005_1, .int .u32 x251006_1, .int .u32 x251007_1] 45 (0, 0))) ∧ Aside0 (w'.heap[gb251]? = some (.cells #[.int .u32 x252000_1, .int .u32 x252001_1, .int .u32 x252002_1, .int .u32 x252003_1, .int .u32 x252004_1, .int .u32 x252005_1, .int .u32 x252006_1, .int .u32 x252007_1] 45 (0, 0))) ∧ Aside0 (Below w.heap.size w w'))
   case atStart => exact ⟨(0), (y246), (0), (0), (0), (0), (0), (0), (0), (0), (0), (0), (0), (0), (0), (0), (0), (0), (.slice Ao12 y246.length co12), (by first | rfl | (simp; done) | (simp [*]; done)), H', ⟨Nat.le_refl _⟩, ⟨by (with_reducible repeat (first | apply Kd.R_alloc | apply Kd.R_drewN | apply Kd.R_drew)); exact Kd.R_mono (Kd.R_far (p := ⟨gb251, 7, none⟩) (Kd.R_far (p := ⟨gb251, 6, none⟩) (Kd.R_far (p := ⟨gb251, 5, none⟩) (Kd.R_far (p := ⟨gb251, 4, none⟩) (Kd.R_far (p := ⟨gb251, 3, none⟩) (Kd.R_far (p := ⟨gb251, 2, none⟩) (Kd.R_far (p := ⟨gb251, 1, none⟩) (Kd.R_far (p := ⟨gb251, 0, none⟩) (Kd.R_far (p := ⟨gb250, 7, none⟩) (Kd.R_far (p := ⟨gb250, 6, none⟩) (Kd.R_far (p := ⟨gb250, 5, none⟩) (Kd.R_far (p := ⟨gb250, 4, none⟩) (Kd.R_far (p := ⟨gb250, 3, none⟩) (Kd.R_far (p := ⟨gb250, 2, none⟩) (Kd.R_far (p := ⟨gb250, 1, none⟩) (Kd.R_far (p := ⟨gb250, 0, none⟩) (Kd.R_types (Kd.R_types HO248.out BK250.out (by decide)) BK251.out (by decide)) (fun _ hk => hk.1.2) (.int .u32 0)) (fun _ hk => hk.1.2) (.int .u32 0)) (fun _ hk => hk.1.2) (.int .u32 0)) (fun _ hk => hk.1.2) (.int .u32 0)) (fun _ hk => hk.1.2) (.int .u32 0)) (fun _ hk => hk.1.2) (.int .u32 0)) (fun _ hk => hk.1.2) (.int .u32 0)) (fun _ hk => hk.1.2) (.int .u32 0)) (fun _ hk => hk.2) (.int .u32 0)) (fun _ hk => hk.2) (.int .u32 0)) (fun _ hk => hk.2) (.int .u32 0)) (fun _ hk => hk.2) (.int .u32 0)) (fun _ hk => hk.2) (.int .u32 0)) (fun _ hk => hk.2) (.int .u32 0)) (fun _ hk => hk.2) (.int .u32 0)) (fun _ hk => hk.2) (.int .u32 0)) (fun _ hk => trivial)⟩, ⟨by (repeat (first | (with_reducible first | refine blk_drewN ?_ _ | refine blk_drew ?_ | refine blk_alloc ?_ _) | refine blk_far ?_ NB244_251.out _)); (repeat (first | (with_reducible first | refine blk_drewN ?_ _ | refine blk_drew ?_ | refine blk_alloc ?_ _) | refine blk_far ?_ NB244_250.out _)); (with_reducible repeat (first | refine blk_drewN ?_ _ | refine blk_drew ?_ | refine blk_alloc ?_ _)); exact BK244.out⟩, ⟨by (repeat (first | (with_reducible first | refine blk_drewN ?_ _ | refine blk_drew ?_ | refine blk_alloc ?_ _) | refine blk_far ?_ NB245_251.out _)); (repeat (first | (with_reducible first | refine blk_drewN ?_ _ | refine blk_drew ?_ | refine blk_alloc ?_ _) | refine blk_far ?_ NB245_250.out _)); (with_reducible repeat (first | refine blk_drewN ?_ _ | refine blk_drew ?_ | refine blk_alloc ?_ _)); exact BK245.out⟩, ⟨by (repeat (first | (with_reducible first | refine blk_drewN ?_ _ | refine blk_drew ?_ | refine blk_alloc ?_ _) | refine blk_far ?_ NB249_251.out _)); (repeat (first | (with_reducible first | refine blk_drewN ?_ _ | refine blk_drew ?_ | refine blk_alloc ?_ _) | refine blk_far ?_ NB249_250.out _)); (with_reducible repeat (first | refine blk_drewN ?_ _ | refine blk_drew ?_ | refine blk_alloc ?_ _)); exact BK249.out⟩, ⟨by (repeat (first | (with_reducible first | refine blk_drewN ?_ _ | refine blk_drew ?_ | refine blk_alloc ?_ _) | refine blk_far ?_ NB250_251.out _)); (with_reducible repeat (first | refine blk_drewN ?_ _ | refine blk_drew ?_ | refine blk_alloc ?_ _)); refine blk_put (cs := #[.int .u32 0, .int .u32 0, .int .u32 0, .int .u32 0, .int .u32 0, .int .u32 0, .int .u32 0, .int .u32 0]) ?_ 7 _ rfl; (with_reducible repeat (first | refine blk_drewN ?_ _ | refine blk_drew ?_ | refine blk_alloc ?_ _)); refine blk_put (cs := #[.int .u32 0, .int .u32 0, .int .u32 0, .int .u32 0, .int .u32 0, .int .u32 0, .int .u32 0, .int .u32 0]) ?_ 6 _ rfl; (with_reducible repeat (first | refine blk_drewN ?_ _ | refine blk_drew ?_ | refine blk_alloc ?_ _)); refine blk_put (cs := #[.int .u32 0, .int .u32 0, .int .u32 0, .int .u32 0, .int .u32 0, .int .u32 0, .int .u32 0, .int .u32 0]) ?_ 5 _ rfl; (with_reducible repeat (first | refine blk_drewN ?_ _ | refine blk_drew ?_ | refine blk_alloc ?_ _)); refine blk_put (cs := #[.int .u32 0, .int .u32 0, .int .u32 0, .int .u32 0, .int .u32 0, .int .u32 0, .int .u32 0, .int .u32 0]) ?_ 4 _ rfl; (with_reducible repeat (first | refine blk_drewN ?_ _ | refine blk_drew ?_ | refine blk_alloc ?_ _)); refine blk_put (cs := #[.int .u32 0, .int .u32 0, .int .u32 0, .int .u32 0, .int .u32 0, .int .u32 0, .int .u32 0, .int .u32 0]) ?_ 3 _ rfl; (with_reducible repeat (first | refine blk_drewN ?_ _ | refine blk_drew ?_ | refine blk_alloc ?_ _)); refine blk_put (cs := #[.int .u32 0, .int .u32 0, .int .u32 0, .int .u32 0, .int .u32 0, .int .u32 0, .int .u32 0, .int .u32 0]) ?_ 2 _ rfl; (with_reducible repeat (first | refine blk_drewN ?_ _ | refine blk_drew ?_ | refine blk_alloc ?_ _)); refine blk_put (cs := #[.int .u32 0, .int .u32 0, .int .u32 0, .int .u32 0, .int .u32 0, .int .u32 0, .int .u32 0, .int .u32 0]) ?_ 1 _ rfl; (with_reducible repeat (first | refine blk_drewN ?_ _ | refine blk_drew ?_ | refine blk_alloc ?_ _)); refine blk_put (cs := #[.int .u32 0, .int .u32 0, .int .u32 0, .int .u32 0, .int .u32 0, .int .u32 0, .int .u32 0, .int .u32 0]) ?_ 0 _ rfl; (with_reducible repeat (first | refine blk_drewN ?_ _ | refine blk_drew ?_ | refine blk_alloc ?_ _)); exact BK250.out⟩, ⟨by (with_reducible repeat (first | refine blk_drewN ?_ _ | refine blk_drew ?_ | refine blk_alloc ?_ _)); refine blk_put (cs := #[.int .u32 0, .int .u32 0, .int .u32 0, .int .u32 0, .int .u32 0, .int .u32 0, .int .u32 0, .int .u32 0]) ?_ 7 _ rfl; (with_reducible repeat (first | refine blk_drewN ?_ _ | refine blk_drew ?_ | refine blk_alloc ?_ _)); refine blk_put (cs := #[.int .u32 0, .int .u32 0, .int .u32 0, .int .u32 0, .int .u32 0, .int .u32 0, .int .u32 0, .int .u32 0]) ?_ 6 _ rfl; (with_reducible repeat (first | refine blk_drewN ?_ _ | refine blk_drew ?_ | refine blk_alloc ?_ _)); refine blk_put (cs := #[.int .u32 0, .int .u32 0, .int .u32 0, .int .u32 0, .int .u32 0, .int .u32 0, .int .u32 0, .int .u32 0]) ?_ 5 _ rfl; (with_reducible repeat (first | refine blk_drewN ?_ _ | refine blk_drew ?_ | refine blk_alloc ?_ _)); refine blk_put (cs := #[.int .u32 0, .int .u32 0, .int .u32 0, .int .u32 0, .int .u32 0, .int .u32 0, .int .u32 0, .int .u32 0]) ?_ 4 _ rfl; (with_reducible repeat (first | refine blk_drewN ?_ _ | refine blk_drew ?_ | refine blk_alloc ?_ _)); refine blk_put (cs := #[.int .u32 0, .int .u32 0, .int .u32 0, .int .u32 0, .int .u32 0, .int .u32 0, .int .u32 0, .int .u32 0]) ?_ 3 _ rfl; (with_reducible repeat (first | refine blk_drewN ?_ _ | refine blk_drew ?_ | refine blk_alloc ?_ _)); refine blk_put (cs := #[.int .u32 0, .int .u32 0, .int .u32 0, .int .u32 0, .int .u32 0, .int .u32 0, .int .u32 0, .int .u32 0]) ?_ 2 _ rfl; (with_reducible repeat (first | refine blk_drewN ?_ _ | refine blk_drew ?_ | refine blk_alloc ?_ _)); refine blk_put (cs := #[.int .u32 0, .int .u32 0, .int .u32 0, .int .u32 0, .int .u32 0, .int .u32 0, .int .u32 0, .int .u32 0]) ?_ 1 _ rfl; (with_reducible repeat (first | refine blk_drewN ?_ _ | refine blk_drew ?_ | refine blk_alloc ?_ _)); refine blk_put (cs := #[.int .u32 0, .int .u32 0, .int .u32 0, .int .u32 0, .int .u32 0, .int .u32 0, .int .u32 0, .int .u32 0]) ?_ 0 _ rfl; (repeat (first | (with_reducible first | refine blk_drewN ?_ _ | refine blk_drew ?_ | refine blk_alloc ?_ _) | refine blk_far ?_ NB251_250.out _)); (with_reducible repeat (first | refine blk_drewN ?_ _ | refine blk_drew ?_ | refine blk_alloc ?_ _)); exact BK251.out⟩, ⟨by repeat (first | (with_reducible first | exact HB.out | apply below_alloc | apply pw_below_drewN | apply below_drew1 | refine below_set ?_ GE244.out | refine below_set ?_ GE245.out | refine below_set ?_ GE249.out | refine below_set ?_ GE250.out | refine below_set ?_ GE251.out) | exact HB.out)⟩⟩
   case round =>
    clear H'
    try clear c1
    try clear c2
    try clear p2
    try clear c4
    try clear c4b0
    try clear c4b1
    try clear c5
    try clear c5b0
    try clear c5b1
    try clear p6
    try clear c8
    try clear c12
    try clear c14
    try clear c15
    try clear c19
    try clear c20
    try clear c21
    try clear c22
    try clear c24
    try clear c25
    try clear c26
    try clear hcz16_0
    try clear hcz16_1
    try clear hcz16_2
    try clear hcz16_3
    try clear hcz16_4
    try clear hcz16_5
    try clear hcz16_6
    try clear hcz23_0
    try clear hcz23_1
    try clear hcz23_2
    try clear hcz23_3
    try clear hcz23_4
    try clear hcz23_5
    try clear hcz23_6
    try clear hcz23_7
    try clear hcz27_0
    try clear hcz27_1
    try clear hcz27_2
    try clear hcz27_3
    try clear hcz27_4
    try clear hcz27_5
    try clear hcz27_6
    try clear hcz27_7
    try clear hcz9_0
    try clear hcz9_1
    try clear hcz9_2
    try clear hcz9_3
    try clear hfz16_0
    try clear hfz16_1
    try clear hfz16_2
    try clear hfz16_3
    try clear hfz16_4
    try clear hfz16_5
    try clear hfz16_6
    try clear hfz23_0
    try clear hfz23_1
    try clear hfz23_2
    try clear hfz23_3
    try clear hfz23_4
    try clear hfz23_5
    try clear hfz23_6
    try clear hfz23_7
    try clear hfz27_0
    try clear hfz27_1
    try clear hfz27_2
    try clear hfz27_3
    try clear hfz27_4
    try clear hfz27_5
    try clear hfz27_6
    try clear hfz27_7
    try clear hfz9_0
    try clear hfz9_1
    try clear hfz9_2
    try clear hfz9_3
    obtain ⟨x8_1, x250000_1, x251000_1, x251001_1, x251002_1, x251003_1, x251004_1, x251005_1, x251006_1, x251007_1, x252000_1, x252001_1, x252002_1, x252003_1, x252004_1, x252005_1, x252006_1, x252007_1, u250000, rfl, HA, HK1, HO_250000, BK244, BK245, BK249, BK250, BK251, HB⟩ := hrel
    cases gk with
    | zero => exact absurd HA.out (by simp [offertoryref09_Stats.l0])
    | succ k1 =>
     have H := HA.out
     clear HA
     simp only [offertoryref09_Stats.l0] at H
     by_cases c28 : x8_1 < (l1.length : Int)
     ·
      rw [if_pos c28] at H
      have c28b0 : decide (x8_1 < (l1.length : Int)) = true := decide_eq_true c28
      clear c28
      by_cases c29 : 0 ≤ x8_1
      ·
       rw [if_pos c29] at H
       have c29b0 : decide (0 ≤ x8_1) = true := decide_eq_true c29
       clear c29
       replace H := Option.bind_eq_some_iff.mp H
       obtain ⟨t266, A300, H⟩ := H
       replace H : (if 0 ≤ t266 then (if t266 < (x250000_1.length : Int) then ((offertoryref09_Clamp.f a0_0 a0_1 a0_2 l0_3 (rd l1 x8_1)).bind fun t270 => ((offertoryref09_Int.f t270).bind fun bt271 => ((offertoryref09_Add.f x251000_1 x251001_1 x251002_1 x251003_1 x251004_1 x251005_1 x251006_1 x251007_1 bt271.1 bt271.2.1 bt271.2.2.1 bt271.2.2.2.1 bt271.2.2.2.2.1 bt271.2.2.2.2.2.1 bt271.2.2.2.2.2.2.1 bt271.2.2.2.2.2.2.2).bind fun bt280 => ((offertoryref09_Mul.f bt271.1 bt271.2.1 bt271.2.2.1 bt271.2.2.2.1 bt271.2.2.2.2.1 bt271.2.2.2.2.2.1 bt271.2.2.2.2.2.2.1 bt271.2.2.2.2.2.2.2 bt271.1 bt271.2.1 bt271.2.2.1 bt271.2.2.2.1 bt271.2.2.2.2.1 bt271.2.2.2.2.2.1 bt271.2.2.2.2.2.2.1 bt271.2.2.2.2.2.2.2).bind fun bt288 => ((offertoryref09_Add.f x252000_1 x252001_1 x252002_1 x252003_1 x252004_1 x252005_1 x252006_1 x252007_1 bt288.1 bt288.2.1 bt288.2.2.1 bt288.2.2.2.1 bt288.2.2.2.2.1 bt288.2.2.2.2.2.1 bt288.2.2.2.2.2.2.1 bt288.2.2.2.2.2.2.2).bind fun bt296 => (offertoryref09_Stats.l0 k1 l1 (wrap64 (x8_1 + 1)) a0_0 a0_1 a0_2 l0_3 (x250000_1.set (t266 : Int).toNat (wrap64 ((rd x250000_1 t266) + 1))) (l1.length : Int) 0 0 0 0 false bt280.1 bt280.2.1 bt280.2.2.1 bt280.2.2.2.1 bt280.2.2.2.2.1 bt280.2.2.2.2.2.1 bt280.2.2.2.2.2.2.1 bt280.2.2.2.2.2.2.2 bt296.1 bt296.2.1 bt296.2.2.1 bt296.2.2.2.1 bt296.2.2.2.2.1 bt296.2.2.2.2.2.1 bt296.2.2.2.2.2.2.1 bt296.2.2.2.2.2.2.2)))))) else (none)) else (none)) = some (r1, r2, r3, r4, r5, r6, r7) := H
       have A30 := Aside0.mk A300
       clear A300
       by_cases c31 : 0 ≤ t266
       ·
        rw [if_pos c31] at H
        have c31b0 : decide (0 ≤ t266) = true := decide_eq_true c31
        clear c31
        by_cases c32 : t266 < (x250000_1.length : Int)
        ·
         rw [if_pos c32] at H
         have c32b0 : decide (t266 < (x250000_1.length : Int)) = true := decide_eq_true c32
         clear c32
         obtain ⟨y268, hy268⟩ : ∃ y_ : List Int, y_ = (x250000_1.set (t266 : Int).toNat (wrap64 ((rd x250000_1 t266) + 1))) := ⟨_, rfl⟩
         replace H : ((offertoryref09_Clamp.f a0_0 a0_1 a0_2 l0_3 (rd l1 x8_1)).bind fun t270 => ((offertoryref09_Int.f t270).bind fun bt271 => ((offertoryref09_Add.f x251000_1 x251001_1 x251002_1 x251003_1 x251004_1 x251005_1 x251006_1 x251007_1 bt271.1 bt271.2.1 bt271.2.2.1 bt271.2.2.2.1 bt271.2.2.2.2.1 bt271.2.2.2.2.2.1 bt271.2.2.2.2.2.2.1 bt271.2.2.2.2.2.2.2).bind fun bt280 => ((offertoryref09_Mul.f bt271.1 bt271.2.1 bt271.2.2.1 bt271.2.2.2.1 bt271.2.2.2.2.1 bt271.2.2.2.2.2.1 bt271.2.2.2.2.2.2.1 bt271.2.2.2.2.2.2.2 bt271.1 bt271.2.1 bt271.2.2.1 bt271.2.2.2.1 bt271.2.2.2.2.1 bt271.2.2.2.2.2.1 bt271.2.2.2.2.2.2.1 bt271.2.2.2.2.2.2.2).bind fun bt288 => ((offertoryref09_Add.f x252000_1 x252001_1 x252002_1 x252003_1 x252004_1 x252005_1 x252006_1 x252007_1 bt288.1 bt288.2.1 bt288.2.2.1 bt288.2.2.2.1 bt288.2.2.2.2.1 bt288.2.2.2.2.2.1 bt288.2.2.2.2.2.2.1 bt288.2.2.2.2.2.2.2).bind fun bt296 => (offertoryref09_Stats.l0 k1 l1 (wrap64 (x8_1 + 1)) a0_0 a0_1 a0_2 l0_3 y268 (l1.length : Int) 0 0 0 0 false bt280.1 bt280.2.1 bt280.2.2.1 bt280.2.2.2.1 bt280.2.2.2.2.1 bt280.2.2.2.2.2.1 bt280.2.2.2.2.2.2.1 bt280.2.2.2.2.2.2.2 bt296.1 bt296.2.1 bt296.2.2.1 bt296.2.2.2.1 bt296.2.2.2.2.1 bt296.2.2.2.2.2.1 bt296.2.2.2.2.2.2.1 bt296.2.2.2.2.2.2.2)))))) = some (r1, r2, r3, r4, r5, r6, r7) := by first | (rw [hy268]; with_reducible exact H) | (have H2_ := (Option.bind_some _ _).symm.trans H; rw [hy268]; with_reducible exact H2_) | (have H2_ := (Option.bind_some _ _).symm.trans H; with_reducible exact H2_) | with_reducible exact H | (rw [hy268]; exact H) | exact H
         have Ny268 := Aside0.mk hy268
         clear hy268
         replace H := Option.bind_eq_some_iff.mp H
         obtain ⟨t270, A340, H⟩ := H
         replace H : ((offertoryref09_Int.f t270).bind fun bt271 => ((offertoryref09_Add.f x251000_1 x251001_1 x251002_1 x251003_1 x251004_1 x251005_1 x251006_1 x251007_1 bt271.1 bt271.2.1 bt271.2.2.1 bt271.2.2.2.1 bt271.2.2.2.2.1 bt271.2.2.2.2.2.1 bt271.2.2.2.2.2.2.1 bt271.2.2.2.2.2.2.2).bind fun bt280 => ((offertoryref09_Mul.f bt271.1 bt271.2.1 bt271.2.2.1 bt271.2.2.2.1 bt271.2.2.2.2.1 bt271.2.2.2.2.2.1 bt271.2.2.2.2.2.2.1 bt271.2.2.2.2.2.2.2 bt271.1 bt271.2.1 bt271.2.2.1 bt271.2.2.2.1 bt271.2.2.2.2.1 bt271.2.2.2.2.2.1 bt271.2.2.2.2.2.2.1 bt271.2.2.2.2.2.2.2).bind fun bt288 => ((offertoryref09_Add.f x252000_1 x252001_1 x252002_1 x252003_1 x252004_1 x252005_1 x252006_1 x252007_1 bt288.1 bt288.2.1 bt288.2.2.1 bt288.2.2.2.1 bt288.2.2.2.2.1 bt288.2.2.2.2.2.1 bt288.2.2.2.2.2.2.1 bt288.2.2.2.2.2.2.2).bind fun bt296 => (offertoryref09_Stats.l0 k1 l1 (wrap64 (x8_1 + 1)) a0_0 a0_1 a0_2 l0_3 y268 (l1.length : Int) 0 0 0 0 false bt280.1 bt280.2.1 bt280.2.2.1 bt280.2.2.2.1 bt280.2.2.2.2.1 bt280.2.2.2.2.2.1 bt280.2.2.2.2.2.2.1 bt280.2.2.2.2.2.2.2 bt296.1 bt296.2.1 bt296.2.2.1 bt296.2.2.2.1 bt296.2.2.2.2.1 bt296.2.2.2.2.2.1 bt296.2.2.2.2.2.2.1 bt296.2.2.2.2.2.2.2))))) = some (r1, r2, r3, r4, r5, r6, r7) := H
         have A34 := Aside0.mk A340
         clear A340
         replace H := Option.bind_eq_some_iff.mp H
         obtain ⟨⟨t271, t272, t273, t274, t275, t276, t277, t278⟩, A350, H⟩ := H
         replace H : ((offertoryref09_Add.f x251000_1 x251001_1 x251002_1 x251003_1 x251004_1 x251005_1 x251006_1 x251007_1 t271 t272 t273 t274 t275 t276 t277 t278).bind fun bt280 => ((offertoryref09_Mul.f t271 t272 t273 t274 t275 t276 t277 t278 t271 t272 t273 t274 t275 t276 t277 t278).bind fun bt288 => ((offertoryref09_Add.f x252000_1 x252001_1 x252002_1 x252003_1 x252004_1 x252005_1 x252006_1 x252007_1 bt288.1 bt288.2.1 bt288.2.2.1 bt288.2.2.2.1 bt288.2.2.2.2.1 bt288.2.2.2.2.2.1 bt288.2.2.2.2.2.2.1 bt288.2.2.2.2.2.2.2).bind fun bt296 => (offertoryref09_Stats.l0 k1 l1 (wrap64 (x8_1 + 1)) a0_0 a0_1 a0_2 l0_3 y268 (l1.length : Int) 0 0 0 0 false bt280.1 bt280.2.1 bt280.2.2.1 bt280.2.2.2.1 bt280.2.2.2.2.1 bt280.2.2.2.2.2.1 bt280.2.2.2.2.2.2.1 bt280.2.2.2.2.2.2.2 bt296.1 bt296.2.1 bt296.2.2.1 bt296.2.2.2.1 bt296.2.2.2.2.1 bt296.2.2.2.2.2.1 bt296.2.2.2.2.2.2.1 bt296.2.2.2.2.2.2.2)))) = some (r1, r2, r3, r4, r5, r6, r7) := H
         have A35 := Aside0.mk A350
         clear A350
         replace H := Option.bind_eq_some_iff.mp H
         obtain ⟨⟨t280, t281, t282, t283, t284, t285, t286, t287⟩, A360, H⟩ := H
         replace H : ((offertoryref09_Mul.f t271 t272 t273 t274 t275 t276 t277 t278 t271 t272 t273 t274 t275 t276 t277 t278).bind fun bt288 => ((offertoryref09_Add.f x252000_1 x252001_1 x252002_1 x252003_1 x252004_1 x252005_1 x252006_1 x252007_1 bt288.1 bt288.2.1 bt288.2.2.1 bt288.2.2.2.1 bt288.2.2.2.2.1 bt288.2.2.2.2.2.1 bt288.2.2.2.2.2.2.1 bt288.2.2.2.2.2.2.2).bind fun bt296 => (offertoryref09_Stats.l0 k1 l1 (wrap64 (x8_1 + 1)) a0_0 a0_1 a0_2 l0_3 y268 (l1.length : Int) 0 0 0 0 false t280 t281 t282 t283 t284 t285 t286 t287 bt296.1 bt296.2.1 bt296.2.2.1 bt296.2.2.2.1 bt296.2.2.2.2.1 bt296.2.2.2.2.2.1 bt296.2.2.2.2.2.2.1 bt296.2.2.2.2.2.2.2))) = some (r1, r2, r3, r4, r5, r6, r7) := H
         have A36 := Aside0.mk A360
         clear A360
         replace H := Option.bind_eq_some_iff.mp H
         obtain ⟨⟨t288, t289, t290, t291, t292, t293, t294, t295⟩, A370, H⟩ := H
         replace H : ((offertoryref09_Add.f x252000_1 x252001_1 x252002_1 x252003_1 x252004_1 x252005_1 x252006_1 x252007_1 t288 t289 t290 t291 t292 t293 t294 t295).bind fun bt296 => (offertoryref09_Stats.l0 k1 l1 (wrap64 (x8_1 + 1)) a0_0 a0_1 a0_2 l0_3 y268 (l1.length : Int) 0 0 0 0 false t280 t281 t282 t283 t284 t285 t286 t287 bt296.1 bt296.2.1 bt296.2.2.1 bt296.2.2.2.1 bt296.2.2.2.2.1 bt296.2.2.2.2.2.1 bt296.2.2.2.2.2.2.1 bt296.2.2.2.2.2.2.2)) = some (r1, r2, r3, r4, r5, r6, r7) := H
         have A37 := Aside0.mk A370
         clear A370
         replace H := Option.bind_eq_some_iff.mp H
         obtain ⟨⟨t296, t297, t298, t299, t300, t301, t302, t303⟩, A380, H⟩ := H
         replace H : (offertoryref09_Stats.l0 k1 l1 (wrap64 (x8_1 + 1)) a0_0 a0_1 a0_2 l0_3 y268 (l1.length : Int) 0 0 0 0 false t280 t281 t282 t283 t284 t285 t286 t287 t296 t297 t298 t299 t300 t301 t302 t303) = some (r1, r2, r3, r4, r5, r6, r7) := H
         have A38 := Aside0.mk A380
         clear A380
         have H' := Aside0.mk H
         clear H
         try go_wp2
         have n0_ := Aside0.mk (Kd.R_drew HO_250000.out)
         have n1_ := Aside0.mk (blk_drew BK244.out)
         have n2_ := Aside0.mk (blk_drew BK245.out)
         have n3_ := Aside0.mk (blk_drew BK249.out)
         have n4_ := Aside0.mk (blk_drew BK250.out)
         have n5_ := Aside0.mk (blk_drew BK251.out)
         have n6_ := Aside0.mk (below_drew1 HB.out)
         clear HO_250000
         clear BK244
         clear BK245
         clear BK249
         clear BK250
         clear BK251
         clear HB
         have HO_250000 := n0_
         have BK244 := n1_
         have BK245 := n2_
         have BK249 := n3_
         have BK250 := n4_
         have BK251 := n5_
         have HB := n6_
         clear n0_ n1_ n2_ n3_ n4_ n5_ n6_
         have p265 : 0 ≤ (x8_1 : Int) := of_decide_eq_true (by first | (with_reducible assumption) | assumption)
         have q265 : x8_1 < (l1.length : Int) := of_decide_eq_true (by first | (with_reducible assumption) | assumption)
         obtain ⟨ad265, e265, hx265_0⟩ := Kd.at_int HR1.out x8_1 p265 q265
         have hw265_0 := hx265_0
         cases e265
         replace hx265_0 := (HB.out.cell (World.block_lt_of_cell? w _ hx265_0)).trans hx265_0
         replace p265 := eq_true p265
         replace q265 := eq_true q265
         obtain ⟨Ao41, co41, eo41⟩ := Kd.R_slice HO_250000.out
         (first | subst eo41 | (injection eo41 with f1_ f2_ f3_; have f4_ := f1_.symm; have f5_ := f3_.symm; clear f1_ f2_ f3_; subst f4_; subst f5_))
         have p267 : 0 ≤ (t266 : Int) := of_decide_eq_true (by first | (with_reducible assumption) | assumption)
         have q267 : t266 < (x250000_1.length : Int) := of_decide_eq_true (by first | (with_reducible assumption) | assumption)
         obtain ⟨ad267, e267, hx267_0⟩ := Kd.at_int (Kd.R_reads' HO_250000.out).2.2 t266 p267 q267
         cases e267
         replace p267 := eq_true p267
         replace q267 := eq_true q267
         refine start_ (n := 13) (S := fun w' => w'.cell? ⟨gb249, 0, none⟩ = some (.slice (some ad267) x250000_1.length co41) ∧ w'.cell? ⟨gb249, 1, none⟩ = some (.int .i64 (l1.length : Int)) ∧ w'.cell? ⟨gb249, 2, none⟩ = some (.int .u64 0) ∧ w'.cell? ⟨gb249, 3, none⟩ = some (.int .u64 0) ∧ w'.cell? ⟨gb249, 4, none⟩ = some (.int .u64 0) ∧ w'.cell? ⟨gb249, 5, none⟩ = some (.int .u64 0) ∧ w'.cell? ⟨gb249, 6, none⟩ = some (.bool false) ∧ w'.cell? ⟨gb244, 0, none⟩ = some (.int .i64 a0_0) ∧ w'.cell? ⟨gb244, 1, none⟩ = some (.int .i64 a0_1) ∧ w'.cell? ⟨gb244, 2, none⟩ = some (.int .i64 a0_2) ∧ w'.cell? ⟨gb244, 3, none⟩ = some (.slice A0_3 l0_3.length c0_3) ∧ w'.cell? (ad265.add (x8_1).toNat) = some (.int .i64 (rd l1 x8_1)) ∧ w'.cell? (ad267.add (t266).toNat) = some (.int .i64 (rd x250000_1 t266))) (ds := [12]) #[F, F, F, F, F, F, F, F, F, F, F, F, F] (by kernel_rfl) rfl rfl ⟨(blk_cell BK249.out 0).trans rfl, (blk_cell BK249.out 1).trans rfl, (blk_cell BK249.out 2).trans rfl, (blk_cell BK249.out 3).trans rfl, (blk_cell BK249.out 4).trans rfl, (blk_cell BK249.out 5).trans rfl, (blk_cell BK249.out 6).trans rfl, (blk_cell BK244.out 0).trans rfl, (blk_cell BK244.out 1).trans rfl, (blk_cell BK244.out 2).trans rfl, (blk_cell BK244.out 3).trans rfl, ((HB.out.cell (World.block_lt_of_cell? w _ hw265_0)).trans hw265_0), hx267_0⟩ (fun hHeld => ?_); refine with_tabW offertoryref09_Stats.tab6 offertoryref09_Stats.bits6 (fun HT_ HW_ => ?_)
         generalize wr.drew = w39 at HO_250000 BK244 BK245 BK249 BK250 BK251 HB hx265_0 hx267_0 hHeld ⊢
         refine pure_ (i := 0) (N := some 26) (v := ?_) (a' := ?_) #[T, F, F, F, F, F, F, F, F, F, F, F, F] rfl rfl (any_of HT_.out (by kernel_rfl)) (fun _ _ _ h => h) (Or.inl ⟨by rfl, ?_⟩) ?_ ?_
         rotate_left
         ·
          intro w'
          (try simp only [add_plain] at s0 s1 s2 s3 s4 s5 s6 s7 s8 s9 s10 s11 s12)
          go_simp
          with_reducible rfl
         rotate_left
         ·
          simp only [Act.put, List.setIfInBounds_toArray, List.set_cons_zero, List.set_cons_succ, i64_w, i32_w]
          rfl
         refine pure_ (i := 3) (N := some 29) (v := ?_) (a' := ?_) #[T, F, F, T, F, F, F, F, F, F, F, F, F] rfl rfl (any_of HT_.out (by kernel_rfl)) (fun _ _ _ h => h) (Or.inl ⟨by rfl, ?_⟩) ?_ ?_
         rotate_left
         ·
          intro w'
          (try simp only [add_plain] at s0 s1 s2 s3 s4 s5 s6 s7 s8 s9 s10 s11 s12)
          go_simp
          with_reducible rfl
         rotate_left
         ·
          simp only [Act.put, List.setIfInBounds_toArray, List.set_cons_zero, List.set_cons_succ, i64_w, i32_w]
          rfl
         refine pure_ (i := 4) (N := some 30) (v := ?_) (a' := ?_) #[T, F, F, T, T, F, F, F, F, F, F, F, F] rfl rfl (any_of HT_.out (by kernel_rfl)) (fun _ _ _ h => h) (Or.inl ⟨by rfl, ?_⟩) ?_ ?_
         rotate_left
         ·
          intro w'
          (try simp only [add_plain] at s0 s1 s2 s3 s4 s5 s6 s7 s8 s9 s10 s11 s12)
          go_simp
          with_reducible rfl
         rotate_left
         ·
          simp only [Act.put, List.setIfInBounds_toArray, List.set_cons_zero, List.set_cons_succ, i64_w, i32_w]
          rfl
         refine pure_ (i := 5) (N := some 31) (v := ?_) (a' := ?_) #[T, F, F, T, T, T, F, F, F, F, F, F, F] rfl rfl (any_of HT_.out (by kernel_rfl)) (fun _ _ _ h => h) (Or.inl ⟨by rfl, ?_⟩) ?_ ?_
         rotate_left
         ·
          intro w'
          (try simp only [add_plain] at s0 s1 s2 s3 s4 s5 s6 s7 s8 s9 s10 s11 s12)
          go_simp
          with_reducible rfl
         rotate_left
         ·
          simp only [Act.put, List.setIfInBounds_toArray, List.set_cons_zero, List.set_cons_succ, i64_w, i32_w]
          rfl
         refine take_ (i := 1) (N := some 27) (v := ?_) (a' := ?_) #[T, T, F, T, T, T, F, F, F, F, F, F, F] rfl rfl (take_ofW HT_.out HW_.out (by kernel_rfl)) (fun _ _ _ h => h) (Or.inl ⟨by rfl, ?_⟩) hHeld ?_ ?_
         rotate_left
         ·
          rintro w' ⟨s0, s1, s2, s3, s4, s5, s6, s7, s8, s9, s10, s11, s12⟩
          (try simp only [add_plain] at s0 s1 s2 s3 s4 s5 s6 s7 s8 s9 s10 s11 s12)
          go_simp
          with_reducible rfl
         rotate_left
         ·
          simp only [Act.put, List.setIfInBounds_toArray, List.set_cons_zero, List.set_cons_succ, i64_w, i32_w]
          rfl
         refine take_ (i := 2) (N := some 28) (v := ?_) (a' := ?_) #[T, T, T, T, T, T, F, F, F, F, F, F, F] rfl rfl (take_ofW HT_.out HW_.out (by kernel_rfl)) (fun _ _ _ h => h) (Or.inl ⟨by rfl, ?_⟩) hHeld ?_ ?_
         rotate_left
         ·
          rintro w' ⟨s0, s1, s2, s3, s4, s5, s6, s7, s8, s9, s10, s11, s12⟩
          (try simp only [add_plain] at s0 s1 s2 s3 s4 s5 s6 s7 s8 s9 s10 s11 s12)
          go_simp
          with_reducible rfl
         rotate_left
         ·
          simp only [Act.put, List.setIfInBounds_toArray, List.set_cons_zero, List.set_cons_succ, i64_w, i32_w]
          rfl
         refine take_ (i := 6) (N := some 32) (v := ?_) (a' := ?_) #[T, T, T, T, T, T, T, F, F, F, F, F, F] rfl rfl (take_ofW HT_.out HW_.out (by kernel_rfl)) (fun _ _ _ h => h) (Or.inl ⟨by rfl, ?_⟩) hHeld ?_ ?_
         rotate_left
         ·
          rintro w' ⟨s0, s1, s2, s3, s4, s5, s6, s7, s8, s9, s10, s11, s12⟩
          (try simp only [add_plain] at s0 s1 s2 s3 s4 s5 s6 s7 s8 s9 s10 s11 s12)
          go_simp
          with_reducible rfl
         rotate_left
         ·
          simp only [Act.put, List.setIfInBounds_toArray, List.set_cons_zero, List.set_cons_succ, i64_w, i32_w]
          rfl
         refine one_ (i := 7) (N := some 33) #[T, T, T, T, T, T, T, T, F, F, F, F, F] rfl rfl (one_of HT_.out (by kernel_rfl)) (by decide) (fun K hK => ?_)
         refine goes_ Try.func28 (by kernel_rfl) rfl #[.agg #[.int .i64 a0_0, .int .i64 a0_1, .int .i64 a0_2, .slice A0_3 l0_3.length c0_3], .int .i64 (rd l1 x8_1)] (by rfl) rfl rfl (by (try simp only [List.map_toArray, List.map_cons, List.map_nil]); first | done | rfl | (simp only [List.length_drop, List.length_take]; rfl)) ?_
         with_reducible refine (offertoryref09_Bin.calls k1 a0_0 a0_1 a0_2 _ _ l0_3 (rd l1 x8_1) t266 _ ?side1 ?side2 A30.out).mono ?_
         (case side1 => repeat (first | exact (Kd.C_below HR0_3.out HB.out) | (with_reducible refine Kd.C_alloc ?_ _) | (with_reducible refine Kd.C_drewN ?_ _) | (with_reducible refine Kd.C_drew ?_)))
         (case side2 => exact HC0_3.out)
         rintro e w40 ⟨rfl, hb⟩
         have HS12_ := (hb.cell (World.block_lt_of_cell? _ _ (hHeld.2.2.2.2.2.2.2.2.2.2.2.2))).trans (hHeld.2.2.2.2.2.2.2.2.2.2.2.2)
         refine ⟨_, rfl, ?_⟩
         have n0_ := Aside0.mk (Kd.R_below (by (with_reducible repeat (first | apply Kd.R_alloc | apply Kd.R_drewN | apply Kd.R_drew)); exact HO_250000.out) hb)
         have n1_ := offertoryref09_Stats.keepB BK244 hb
         have n2_ := offertoryref09_Stats.keepB BK245 hb
         have n3_ := offertoryref09_Stats.keepB BK249 hb
         have n4_ := offertoryref09_Stats.keepB BK250 hb
         have n5_ := offertoryref09_Stats.keepB BK251 hb
         have n6_ := Aside0.mk (below_step (by repeat (first | (with_reducible first | exact HB.out | apply below_alloc | apply pw_below_drewN | apply below_drew1 | refine below_set ?_ GE244.out | refine below_set ?_ GE245.out | refine below_set ?_ GE249.out | refine below_set ?_ GE250.out | refine below_set ?_ GE251.out) | exact HB.out)) hb)
         clear HO_250000
         clear BK244
         clear BK245
         clear BK249
         clear BK250
         clear BK251
         clear HB
         have HO_250000 := n0_
         have BK244 := n1_
         have BK245 := n2_
         have BK249 := n3_
         have BK250 := n4_
         have BK251 := n5_
         have HB := n6_
         clear n0_ n1_ n2_ n3_ n4_ n5_ n6_
         (try clear hb)
         (try clear hb2)
         (try clear hk)
         (try clear hi)
         have p33 : 0 ≤ (t266 : Int) := of_decide_eq_true (by first | (with_reducible assumption) | assumption)
         have q33 : (t266 : Int) < ((x250000_1.length : Int) : Int) := of_decide_eq_true (by first | (with_reducible assumption) | assumption)
         obtain ⟨go33, co33, eo33, gb33, gl33, cl33, HG33⟩ := Kd.R_form HO_250000.out (by omega)
         (first | cases eo33 | (injection eo33 with ea_ en_ ec_; (first | subst ea_ | (injection ea_ with ea_; subst ea_)); subst ec_; clear en_))
         have GB33 := Aside0.mk gb33
         have GG33 := Aside0.mk HG33
         clear gb33 gl33 HG33
         (first | simp only [add_plain] at hx267_0 | skip)
         obtain ⟨hx33_0, hf33_0⟩ := Kd.R_celln 0 HO_250000.out (t266 : Int) p33 q33
         replace p33 := eq_true p33
         replace q33 := eq_true q33
         have HP42 := Kd.R_putn HO_250000.out (t266 : Int) (wrap64 ((rd x250000_1 t266) + 1))
         rw [← Ny268.out] at HP42
         have HQ42 := Aside0.mk HP42
         clear HP42
         refine hK.out _ _ ⟨(blk_cell BK249.out 0).trans rfl, (blk_cell BK249.out 1).trans rfl, (blk_cell BK249.out 2).trans rfl, (blk_cell BK249.out 3).trans rfl, (blk_cell BK249.out 4).trans rfl, (blk_cell BK249.out 5).trans rfl, (blk_cell BK249.out 6).trans rfl, (blk_cell BK244.out 0).trans rfl, (blk_cell BK244.out 1).trans rfl, (blk_cell BK244.out 2).trans rfl, (blk_cell BK244.out 3).trans rfl, ((HB.out.cell (World.block_lt_of_cell? w _ hw265_0)).trans hw265_0), HS12_⟩ (fun hHeld => ?_)
         clear hK K
         refine norm_ (a' := ?_) ?_ ?_
         rotate_left
         ·
          show Act.put _ (some 33) _ = _
          simp only [Act.put, List.setIfInBounds_toArray, List.set_cons_zero, List.set_cons_succ, i64_w, i32_w]
          rfl
         refine pure_ (i := 8) (N := some 34) (v := ?_) (a' := ?_) #[T, T, T, T, T, T, T, T, T, F, F, F, F] rfl rfl (any_of HT_.out (by kernel_rfl)) (fun _ _ _ h => h) (Or.inl ⟨by rfl, ?_⟩) ?_ ?_
         rotate_left
         ·
          intro w'
          (try simp only [add_plain] at s0 s1 s2 s3 s4 s5 s6 s7 s8 s9 s10 s11 s12)
          go_simp
          with_reducible rfl
         rotate_left
         ·
          simp only [Act.put, List.setIfInBounds_toArray, List.set_cons_zero, List.set_cons_succ, i64_w, i32_w]
          rfl
         refine take_ (i := 9) (N := some 35) (v := ?_) (a' := ?_) #[T, T, T, T, T, T, T, T, T, T, F, F, F] rfl rfl (take_ofW HT_.out HW_.out (by kernel_rfl)) (fun _ _ _ h => h) (Or.inl ⟨by rfl, ?_⟩) hHeld ?_ ?_
         rotate_left
         ·
          rintro w' ⟨s0, s1, s2, s3, s4, s5, s6, s7, s8, s9, s10, s11, s12⟩
          (try simp only [add_plain] at s0 s1 s2 s3 s4 s5 s6 s7 s8 s9 s10 s11 s12)
          go_simp
          with_reducible rfl
         rotate_left
         ·
          simp only [Act.put, List.setIfInBounds_toArray, List.set_cons_zero, List.set_cons_succ, i64_w, i32_w]
          rfl
         refine pure_ (i := 10) (N := some 36) (v := ?_) (a' := ?_) #[T, T, T, T, T, T, T, T, T, T, T, F, F] rfl rfl (any_of HT_.out (by kernel_rfl)) (fun _ _ _ h => h) (Or.inl ⟨by rfl, ?_⟩) ?_ ?_
         rotate_left
         ·
          intro w'
          (try simp only [add_plain] at s0 s1 s2 s3 s4 s5 s6 s7 s8 s9 s10 s11 s12)
          go_simp
          with_reducible rfl
         rotate_left
         ·
          simp only [Act.put, List.setIfInBounds_toArray, List.set_cons_zero, List.set_cons_succ, i64_w, i32_w]
          rfl
         refine pure_ (i := 11) (N := some 37) (v := ?_) (a' := ?_) #[T, T, T, T, T, T, T, T, T, T, T, T, F] rfl rfl (any_of HT_.out (by kernel_rfl)) (fun _ _ _ h => h) (Or.inl ⟨by rfl, ?_⟩) ?_ ?_
         rotate_left
         ·
          intro w'
          (try simp only [add_plain] at s0 s1 s2 s3 s4 s5 s6 s7 s8 s9 s10 s11 s12)
          go_simp
          with_reducible rfl
         rotate_left
         ·
          simp only [Act.put, List.setIfInBounds_toArray, List.set_cons_zero, List.set_cons_succ, i64_w, i32_w]
          rfl
         refine last_ (i := 12) (N := none) #[T, T, T, T, T, T, T, T, T, T, T, T, T] rfl rfl (one_of HT_.out (by kernel_rfl)) (by decide) (fun K hK => ?_)
         refine skip_ (w1 := ?_) ?_ ?_ ?_ ?_
         rotate_left
         · rfl
         · rfl
         ·
           go_simp
           rfl
         refine hK.out _ _ ?_
         clear hK K
         refine done_ (done_of HT_.out (by kernel_rfl)) ?_
         have n0_ : Aside0 (Kd.R (Kd.int .i64) 3 (w40.setCell ⟨go33, (t266 : Int).toNat, none⟩ (.int .i64 (wrap64 ((rd x250000_1 t266) + 1)))) w.heap.size (fun _ => True) (.slice (some ⟨go33, 0, none⟩) x250000_1.length co41) y268) := ⟨by (with_reducible repeat (first | apply Kd.R_alloc | apply Kd.R_drewN | apply Kd.R_drew)); exact HQ42.out⟩
         have n1_ : Aside0 ((w40.setCell ⟨go33, (t266 : Int).toNat, none⟩ (.int .i64 (wrap64 ((rd x250000_1 t266) + 1)))).heap[gb244]? = some (.cells #[.int .i64 a0_0, .int .i64 a0_1, .int .i64 a0_2, .slice A0_3 l0_3.length c0_3] 24 (0, 0))) := ⟨by (with_reducible repeat (first | refine blk_drewN ?_ _ | refine blk_drew ?_ | refine blk_alloc ?_ _)); refine blk_far ?_ (by have h_ := Kd.R_ne HO_250000.out BK244.out (by decide); intro e_; exact h_ (by rw [e_]; rfl)) _; (with_reducible repeat (first | refine blk_drewN ?_ _ | refine blk_drew ?_ | refine blk_alloc ?_ _)); exact BK244.out⟩
         have n2_ : Aside0 ((w40.setCell ⟨go33, (t266 : Int).toNat, none⟩ (.int .i64 (wrap64 ((rd x250000_1 t266) + 1)))).heap[gb245]? = some (.cells #[.slice none 0 0, .int .i64 0, .int .u64 0, .int .u64 0, .int .u64 0, .int .u64 0, .bool false] 29 (0, 0))) := ⟨by (with_reducible repeat (first | refine blk_drewN ?_ _ | refine blk_drew ?_ | refine blk_alloc ?_ _)); refine blk_far ?_ (by have h_ := Kd.R_ne HO_250000.out BK245.out (by decide); intro e_; exact h_ (by rw [e_]; rfl)) _; (with_reducible repeat (first | refine blk_drewN ?_ _ | refine blk_drew ?_ | refine blk_alloc ?_ _)); exact BK245.out⟩
         have n3_ : Aside0 ((w40.setCell ⟨go33, (t266 : Int).toNat, none⟩ (.int .i64 (wrap64 ((rd x250000_1 t266) + 1)))).heap[gb249]? = some (.cells #[.slice (some ⟨go33, 0, none⟩) x250000_1.length co41, .int .i64 (l1.length : Int), .int .u64 0, .int .u64 0, .int .u64 0, .int .u64 0, .bool false] 29 (0, 0))) := ⟨by (with_reducible repeat (first | refine blk_drewN ?_ _ | refine blk_drew ?_ | refine blk_alloc ?_ _)); refine blk_far ?_ (by have h_ := Kd.R_ne HO_250000.out BK249.out (by decide); intro e_; exact h_ (by rw [e_]; rfl)) _; (with_reducible repeat (first | refine blk_drewN ?_ _ | refine blk_drew ?_ | refine blk_alloc ?_ _)); exact BK249.out⟩
         have n4_ : Aside0 ((w40.setCell ⟨go33, (t266 : Int).toNat, none⟩ (.int .i64 (wrap64 ((rd x250000_1 t266) + 1)))).heap[gb250]? = some (.cells #[.int .u32 x251000_1, .int .u32 x251001_1, .int .u32 x251002_1, .int .u32 x251003_1, .int .u32 x251004_1, .int .u32 x251005_1, .int .u32 x251006_1, .int .u32 x251007_1] 45 (0, 0))) := ⟨by (with_reducible repeat (first | refine blk_drewN ?_ _ | refine blk_drew ?_ | refine blk_alloc ?_ _)); refine blk_far ?_ (by have h_ := Kd.R_ne HO_250000.out BK250.out (by decide); intro e_; exact h_ (by rw [e_]; rfl)) _; (with_reducible repeat (first | refine blk_drewN ?_ _ | refine blk_drew ?_ | refine blk_alloc ?_ _)); exact BK250.out⟩
         have n5_ : Aside0 ((w40.setCell ⟨go33, (t266 : Int).toNat, none⟩ (.int .i64 (wrap64 ((rd x250000_1 t266) + 1)))).heap[gb251]? = some (.cells #[.int .u32 x252000_1, .int .u32 x252001_1, .int .u32 x252002_1, .int .u32 x252003_1, .int .u32 x252004_1, .int .u32 x252005_1, .int .u32 x252006_1, .int .u32 x252007_1] 45 (0, 0))) := ⟨by (with_reducible repeat (first | refine blk_drewN ?_ _ | refine blk_drew ?_ | refine blk_alloc ?_ _)); refine blk_far ?_ (by have h_ := Kd.R_ne HO_250000.out BK251.out (by decide); intro e_; exact h_ (by rw [e_]; rfl)) _; (with_reducible repeat (first | refine blk_drewN ?_ _ | refine blk_drew ?_ | refine blk_alloc ?_ _)); exact BK251.out⟩
         have n6_ : Aside0 (Below w.heap.size w (w40.setCell ⟨go33, (t266 : Int).toNat, none⟩ (.int .i64 (wrap64 ((rd x250000_1 t266) + 1))))) := ⟨by repeat (first | (with_reducible first | exact HB.out | apply below_alloc | apply pw_below_drewN | apply below_drew1 | refine below_set ?_ GB33.out | refine below_set ?_ GE244.out | refine below_set ?_ GE245.out | refine below_set ?_ GE249.out | refine below_set ?_ GE250.out | refine below_set ?_ GE251.out) | exact HB.out)⟩
         (try clear HO_250000)
         (try clear BK244)
         (try clear BK245)
         (try clear BK249)
         (try clear BK250)
         (try clear BK251)
         (try clear HB)
         generalize (w40.setCell ⟨go33, (t266 : Int).toNat, none⟩ (.int .i64 (wrap64 ((rd x250000_1 t266) + 1)))) = w43 at n0_ n1_ n2_ n3_ n4_ n5_ n6_ ⊢
         have HO_250000 := n0_
         have BK244 := n1_
         have BK245 := n2_
         have BK249 := n3_
         have BK250 := n4_
         have BK251 := n5_
         have HB := n6_
         clear n0_ n1_ n2_ n3_ n4_ n5_ n6_
         try go_wp2
         have n0_ := Aside0.mk (Kd.R_drew HO_250000.out)
         have n1_ := Aside0.mk (blk_drew BK244.out)
         have n2_ := Aside0.mk (blk_drew BK245.out)
         have n3_ := Aside0.mk (blk_drew BK249.out)
         have n4_ := Aside0.mk (blk_drew BK250.out)
         have n5_ := Aside0.mk (blk_drew BK251.out)
         have n6_ := Aside0.mk (below_drew1 HB.out)
         clear HO_250000
         clear BK244
         clear BK245
         clear BK249
         clear BK250
         clear BK251
         clear HB
         have HO_250000 := n0_
         have BK244 := n1_
         have BK245 := n2_
         have BK249 := n3_
         have BK250 := n4_
         have BK251 := n5_
         have HB := n6_
         clear n0_ n1_ n2_ n3_ n4_ n5_ n6_
         have p269 : 0 ≤ (x8_1 : Int) := of_decide_eq_true (by first | (with_reducible assumption) | assumption)
         have q269 : x8_1 < (l1.length : Int) := of_decide_eq_true (by first | (with_reducible assumption) | assumption)
         obtain ⟨ad269, e269, hx269_0⟩ := Kd.at_int HR1.out x8_1 p269 q269
         have hw269_0 := hx269_0
         obtain rfl : ad265 = ad269 := (by injection e269)
         replace hx269_0 := (HB.out.cell (World.block_lt_of_cell? w _ hx269_0)).trans hx269_0
         replace p269 := eq_true p269
         replace q269 := eq_true q269
         refine start_ (n := 9) (S := fun w' => w'.cell? ⟨gb244, 0, none⟩ = some (.int .i64 a0_0) ∧ w'.cell? ⟨gb244, 1, none⟩ = some (.int .i64 a0_1) ∧ w'.cell? ⟨gb244, 2, none⟩ = some (.int .i64 a0_2) ∧ w'.cell? ⟨gb244, 3, none⟩ = some (.slice A0_3 l0_3.length c0_3) ∧ w'.cell? (ad265.add (x8_1).toNat) = some (.int .i64 (rd l1 x8_1))) (ds := []) #[F, F, F, F, F, F, F, F, F] (by kernel_rfl) rfl rfl ⟨(blk_cell BK244.out 0).trans rfl, (blk_cell BK244.out 1).trans rfl, (blk_cell BK244.out 2).trans rfl, (blk_cell BK244.out 3).trans rfl, ((HB.out.cell (World.block_lt_of_cell? w _ hw269_0)).trans hw269_0)⟩ (fun hHeld => ?_); refine with_tabW offertoryref09_Stats.tab7 offertoryref09_Stats.bits7 (fun HT_ HW_ => ?_)
         generalize w43.drew = w44 at HO_250000 BK244 BK245 BK249 BK250 BK251 HB hx269_0 hHeld ⊢
         refine pure_ (i := 1) (N := some 39) (v := ?_) (a' := ?_) #[F, T, F, F, F, F, F, F, F] rfl rfl (any_of HT_.out (by kernel_rfl)) (fun _ _ _ h => h) (Or.inl ⟨by rfl, ?_⟩) ?_ ?_
         rotate_left
         ·
          intro w'
          (try simp only [add_plain] at s0 s1 s2 s3 s4)
          go_simp
          with_reducible rfl
         rotate_left
         ·
          simp only [Act.put, List.setIfInBounds_toArray, List.set_cons_zero, List.set_cons_succ, i64_w, i32_w]
          rfl
         refine pure_ (i := 2) (N := some 40) (v := ?_) (a' := ?_) #[F, T, T, F, F, F, F, F, F] rfl rfl (any_of HT_.out (by kernel_rfl)) (fun _ _ _ h => h) (Or.inl ⟨by rfl, ?_⟩) ?_ ?_
         rotate_left
         ·
          intro w'
          (try simp only [add_plain] at s0 s1 s2 s3 s4)
          go_simp
          with_reducible rfl
         rotate_left
         ·
          simp only [Act.put, List.setIfInBounds_toArray, List.set_cons_zero, List.set_cons_succ, i64_w, i32_w]
          rfl
         refine pure_ (i := 3) (N := some 41) (v := ?_) (a' := ?_) #[F, T, T, T, F, F, F, F, F] rfl rfl (any_of HT_.out (by kernel_rfl)) (fun _ _ _ h => h) (Or.inl ⟨by rfl, ?_⟩) ?_ ?_
         rotate_left
         ·
          intro w'
          (try simp only [add_plain] at s0 s1 s2 s3 s4)
          go_simp
          with_reducible rfl
         rotate_left
         ·
          simp only [Act.put, List.setIfInBounds_toArray, List.set_cons_zero, List.set_cons_succ, i64_w, i32_w]
          rfl
         refine take_ (i := 0) (N := some 38) (v := ?_) (a' := ?_) #[T, T, T, T, F, F, F, F, F] rfl rfl (take_ofW HT_.out HW_.out (by kernel_rfl)) (fun _ _ _ h => h) (Or.inl ⟨by rfl, ?_⟩) hHeld ?_ ?_
         rotate_left
         ·
          rintro w' ⟨s0, s1, s2, s3, s4⟩
          (try simp only [add_plain] at s0 s1 s2 s3 s4)
          go_simp
          with_reducible rfl
         rotate_left
         ·
          simp only [Act.put, List.setIfInBounds_toArray, List.set_cons_zero, List.set_cons_succ, i64_w, i32_w]
          rfl
         refine take_ (i := 4) (N := some 42) (v := ?_) (a' := ?_) #[T, T, T, T, T, F, F, F, F] rfl rfl (take_ofW HT_.out HW_.out (by kernel_rfl)) (fun _ _ _ h => h) (Or.inl ⟨by rfl, ?_⟩) hHeld ?_ ?_
         rotate_left
         ·
          rintro w' ⟨s0, s1, s2, s3, s4⟩
          (try simp only [add_plain] at s0 s1 s2 s3 s4)
          go_simp
          with_reducible rfl
         rotate_left
         ·
          simp only [Act.put, List.setIfInBounds_toArray, List.set_cons_zero, List.set_cons_succ, i64_w, i32_w]
          rfl
         refine join_ (σ := Nat) 1 #[T, T, T, T, T, T, T, T, F] (fun s_ => [(43, .int .i64 t270), (44, .agg #[.int .u32 t271, .int .u32 t272, .int .u32 t273, .int .u32 t274, .int .u32 t275, .int .u32 t276, .int .u32 t277, .int .u32 t278]), (9, .pointer (some ⟨s_, 0, none⟩))]) (fun s_ w' => (w'.cell? ⟨gb244, 0, none⟩ = some (.int .i64 a0_0) ∧ w'.cell? ⟨gb244, 1, none⟩ = some (.int .i64 a0_1) ∧ w'.cell? ⟨gb244, 2, none⟩ = some (.int .i64 a0_2) ∧ w'.cell? ⟨gb244, 3, none⟩ = some (.slice A0_3 l0_3.length c0_3) ∧ w'.cell? (ad265.add (x8_1).toNat) = some (.int .i64 (rd l1 x8_1))) ∧ (Kd.R (Kd.int .i64) 3 w' w.heap.size (fun _ => True) (.slice (some ⟨go33, 0, none⟩) x250000_1.length co41) y268) ∧ (w'.heap[gb244]? = some (.cells #[.int .i64 a0_0, .int .i64 a0_1, .int .i64 a0_2, .slice A0_3 l0_3.length c0_3] 24 (0, 0))) ∧ (w'.heap[gb245]? = some (.cells #[.slice none 0 0, .int .i64 0, .int .u64 0, .int .u64 0, .int .u64 0, .int .u64 0, .bool false] 29 (0, 0))) ∧ (w'.heap[gb249]? = some (.cells #[.slice (some ⟨go33, 0, none⟩) x250000_1.length co41, .int .i64 (l1.length : Int), .int .u64 0, .int .u64 0, .int .u64 0, .int .u64 0, .bool false] 29 (0, 0))) ∧ (w'.heap[gb250]? = some (.cells #[.int .u32 x251000_1, .int .u32 x251001_1, .int .u32 x251002_1, .int .u32 x251003_1, .int .u32 x251004_1, .int .u32 x251005_1, .int .u32 x251006_1, .int .u32 x251007_1] 45 (0, 0))) ∧ (w'.heap[gb251]? = some (.cells #[.int .u32 x252000_1, .int .u32 x252001_1, .int .u32 x252002_1, .int .u32 x252003_1, .int .u32 x252004_1, .int .u32 x252005_1, .int .u32 x252006_1, .int .u32 x252007_1] 45 (0, 0))) ∧ (w'.heap[s_]? = some (.cells #[.int .u32 0, .int .u32 0, .int .u32 0, .int .u32 0, .int .u32 0, .int .u32 0, .int .u32 0, .int .u32 0] 45 (0, 0))) ∧ (w.heap.size ≤ s_) ∧ (w.heap.size ≤ s_) ∧ (gb244 ≠ s_) ∧ (s_ ≠ gb244) ∧ (gb245 ≠ s_) ∧ (s_ ≠ gb245) ∧ (gb249 ≠ s_) ∧ (s_ ≠ gb249) ∧ (gb250 ≠ s_) ∧ (s_ ≠ gb250) ∧ (gb251 ≠ s_) ∧ (s_ ≠ gb251) ∧ (Below w.heap.size w w')) ?_ ?_
         rotate_left
         ·
          intro hCont
          refine two_ (i := 5) (j := 7) (Ni := some 43) (Nj := some 9) #[T, T, T, T, T, T, F, F, F] #[T, T, T, T, T, F, F, T, F] rfl rfl rfl rfl (two_of HT_.out (by kernel_rfl)) (by decide) (by decide) (fun K hK => ?_) (fun K hK => ?_)
          ·
           skip
           refine goes_ Try.func30 (by kernel_rfl) rfl #[.agg #[.int .i64 a0_0, .int .i64 a0_1, .int .i64 a0_2, .slice A0_3 l0_3.length c0_3], .int .i64 (rd l1 x8_1)] (by rfl) rfl rfl (by (try simp only [List.map_toArray, List.map_cons, List.map_nil]); first | done | rfl | (simp only [List.length_drop, List.length_take]; rfl)) ?_
           with_reducible refine (offertoryref09_Clamp.calls a0_0 a0_1 a0_2 _ _ l0_3 (rd l1 x8_1) t270 _ ?side1 ?side2 A34.out).mono ?_
           (case side1 => repeat (first | exact (Kd.C_below HR0_3.out HB.out) | (with_reducible refine Kd.C_alloc ?_ _) | (with_reducible refine Kd.C_drewN ?_ _) | (with_reducible refine Kd.C_drew ?_)))
           (case side2 => exact HC0_3.out)
           rintro e w45 ⟨rfl, hb⟩
           refine ⟨_, rfl, ?_⟩
           have n0_ := Aside0.mk (Kd.R_below (by (with_reducible repeat (first | apply Kd.R_alloc | apply Kd.R_drewN | apply Kd.R_drew)); exact HO_250000.out) hb)
           have n1_ := offertoryref09_Stats.keepB BK244 hb
           have n2_ := offertoryref09_Stats.keepB BK245 hb
           have n3_ := offertoryref09_Stats.keepB BK249 hb
           have n4_ := offertoryref09_Stats.keepB BK250 hb
           have n5_ := offertoryref09_Stats.keepB BK251 hb
           have n6_ := Aside0.mk (below_step (by repeat (first | (with_reducible first | exact HB.out | apply below_alloc | apply pw_below_drewN | apply below_drew1 | refine below_set ?_ GE244.out | refine below_set ?_ GE245.out | refine below_set ?_ GE249.out | refine below_set ?_ GE250.out | refine below_set ?_ GE251.out) | exact HB.out)) hb)
           clear HO_250000
           clear BK244
           clear BK245
           clear BK249
           clear BK250
           clear BK251
           clear HB
           have HO_250000 := n0_
           have BK244 := n1_
           have BK245 := n2_
           have BK249 := n3_
           have BK250 := n4_
           have BK251 := n5_
           have HB := n6_
           clear n0_ n1_ n2_ n3_ n4_ n5_ n6_
           (try clear hb)
           (try clear hb2)
           (try clear hk)
           (try clear hi)
           refine hK.out _ _ ⟨(blk_cell BK244.out 0).trans rfl, (blk_cell BK244.out 1).trans rfl, (blk_cell BK244.out 2).trans rfl, (blk_cell BK244.out 3).trans rfl, ((HB.out.cell (World.block_lt_of_cell? w _ hw269_0)).trans hw269_0)⟩ (fun hHeld => ?_)
           clear hK K
           refine norm_ (a' := ?_) ?_ ?_
           rotate_left
           ·
            show Act.put _ (some 43) _ = _
            simp only [Act.put, List.setIfInBounds_toArray, List.set_cons_zero, List.set_cons_succ, i64_w, i32_w]
            rfl
           refine two_ (i := 6) (j := 7) (Ni := some 44) (Nj := some 9) #[T, T, T, T, T, T, T, F, F] #[T, T, T, T, T, T, F, T, F] rfl rfl rfl rfl (two_of HT_.out (by kernel_rfl)) (by decide) (by decide) (fun K hK => ?_) (fun K hK => ?_)
           ·
            skip
            refine goes_ Try.func29 (by kernel_rfl) rfl #[.int .i64 t270] (by rfl) rfl rfl (by (try simp only [List.map_toArray, List.map_cons, List.map_nil]); first | done | rfl | (simp only [List.length_drop, List.length_take]; rfl)) ?_
            with_reducible refine (offertoryref09_Int.calls t270 t271 t272 t273 t274 t275 t276 t277 t278 _ A35.out).mono ?_
            rintro e w46 ⟨rfl, hb⟩
            refine ⟨_, rfl, ?_⟩
            have n0_ := Aside0.mk (Kd.R_below (by (with_reducible repeat (first | apply Kd.R_alloc | apply Kd.R_drewN | apply Kd.R_drew)); exact HO_250000.out) hb)
            have n1_ := offertoryref09_Stats.keepB BK244 hb
            have n2_ := offertoryref09_Stats.keepB BK245 hb
            have n3_ := offertoryref09_Stats.keepB BK249 hb
            have n4_ := offertoryref09_Stats.keepB BK250 hb
            have n5_ := offertoryref09_Stats.keepB BK251 hb
            have n6_ := Aside0.mk (below_step (by repeat (first | (with_reducible first | exact HB.out | apply below_alloc | apply pw_below_drewN | apply below_drew1 | refine below_set ?_ GE244.out | refine below_set ?_ GE245.out | refine below_set ?_ GE249.out | refine below_set ?_ GE250.out | refine below_set ?_ GE251.out) | exact HB.out)) hb)
            clear HO_250000
            clear BK244
            clear BK245
            clear BK249
            clear BK250
            clear BK251
            clear HB
            have HO_250000 := n0_
            have BK244 := n1_
            have BK245 := n2_
            have BK249 := n3_
            have BK250 := n4_
            have BK251 := n5_
            have HB := n6_
            clear n0_ n1_ n2_ n3_ n4_ n5_ n6_
            (try clear hb)
            (try clear hb2)
            (try clear hk)
            (try clear hi)
            refine hK.out _ _ ⟨(blk_cell BK244.out 0).trans rfl, (blk_cell BK244.out 1).trans rfl, (blk_cell BK244.out 2).trans rfl, (blk_cell BK244.out 3).trans rfl, ((HB.out.cell (World.block_lt_of_cell? w _ hw269_0)).trans hw269_0)⟩ (fun hHeld => ?_)
            clear hK K
            refine norm_ (a' := ?_) ?_ ?_
            rotate_left
            ·
             show Act.put _ (some 44) _ = _
             simp only [Act.put, List.setIfInBounds_toArray, List.set_cons_zero, List.set_cons_succ, i64_w, i32_w]
             rfl
            refine one_ (i := 7) (N := some 9) #[T, T, T, T, T, T, T, T, F] rfl rfl (one_of HT_.out (by kernel_rfl)) (by decide) (fun K hK => ?_)
            refine box_step ?hg (N := 9) ?hd (cs := #[.int .u32 0, .int .u32 0, .int .u32 0, .int .u32 0, .int .u32 0, .int .u32 0, .int .u32 0, .int .u32 0]) (t := 45) ?hr ?_; (case hd => rfl); (case hg => rfl); (case hr => first | (go_simp; done) | (go_simp; rfl))
            intro gb279 hg w47 hbox hb
            have n0_ := Aside0.mk (Kd.R_below (by (with_reducible repeat (first | apply Kd.R_alloc | apply Kd.R_drewN | apply Kd.R_drew)); exact HO_250000.out) hb)
            have n1_ := offertoryref09_Stats.keepB BK244 hb
            have n2_ := offertoryref09_Stats.keepB BK245 hb
            have n3_ := offertoryref09_Stats.keepB BK249 hb
            have n4_ := offertoryref09_Stats.keepB BK250 hb
            have n5_ := offertoryref09_Stats.keepB BK251 hb
            have n6_ := Aside0.mk (below_step (by repeat (first | (with_reducible first | exact HB.out | apply below_alloc | apply pw_below_drewN | apply below_drew1 | refine below_set ?_ GE244.out | refine below_set ?_ GE245.out | refine below_set ?_ GE249.out | refine below_set ?_ GE250.out | refine below_set ?_ GE251.out) | exact HB.out)) hb)
            have n7_ := Aside0.mk (hbox)
            have n8_ := Aside0.mk ((by rw [hg]; exact (below_size (by repeat (first | (with_reducible first | exact HB.out | apply below_alloc | apply pw_below_drewN | apply below_drew1 | refine below_set ?_ GE244.out | refine below_set ?_ GE245.out | refine below_set ?_ GE249.out | refine below_set ?_ GE250.out | refine below_set ?_ GE251.out) | exact HB.out))) : w.heap.size ≤ gb279))
            have n9_ := Aside0.mk ((by rw [hg]; exact (below_size (by repeat (first | (with_reducible first | exact HB.out | apply below_alloc | apply pw_below_drewN | apply below_drew1 | refine below_set ?_ GE244.out | refine below_set ?_ GE245.out | refine below_set ?_ GE249.out | refine below_set ?_ GE250.out | refine below_set ?_ GE251.out) | exact HB.out))) : w.heap.size ≤ gb279))
            have n10_ := offertoryref09_Stats.neL BK244 hg
            have n11_ := offertoryref09_Stats.neG BK244 hg
            have n12_ := offertoryref09_Stats.neL BK245 hg
            have n13_ := offertoryref09_Stats.neG BK245 hg
            have n14_ := offertoryref09_Stats.neL BK249 hg
            have n15_ := offertoryref09_Stats.neG BK249 hg
            have n16_ := offertoryref09_Stats.neL BK250 hg
            have n17_ := offertoryref09_Stats.neG BK250 hg
            have n18_ := offertoryref09_Stats.neL BK251 hg
            have n19_ := offertoryref09_Stats.neG BK251 hg
            clear HO_250000
            clear BK244
            clear BK245
            clear BK249
            clear BK250
            clear BK251
            clear HB
            have HO_250000 := n0_
            have BK244 := n1_
            have BK245 := n2_
            have BK249 := n3_
            have BK250 := n4_
            have BK251 := n5_
            have HB := n6_
            have BK279 := n7_
            have GW279 := n8_
            have GE279 := n9_
            have NB244_279 := n10_
            have NB279_244 := n11_
            have NB245_279 := n12_
            have NB279_245 := n13_
            have NB249_279 := n14_
            have NB279_249 := n15_
            have NB250_279 := n16_
            have NB279_250 := n17_
            have NB251_279 := n18_
            have NB279_251 := n19_
            clear n0_ n1_ n2_ n3_ n4_ n5_ n6_ n7_ n8_ n9_ n10_ n11_ n12_ n13_ n14_ n15_ n16_ n17_ n18_ n19_
            clear hb hbox hg
            refine hK.out _ _ ⟨(blk_cell BK244.out 0).trans rfl, (blk_cell BK244.out 1).trans rfl, (blk_cell BK244.out 2).trans rfl, (blk_cell BK244.out 3).trans rfl, ((HB.out.cell (World.block_lt_of_cell? w _ hw269_0)).trans hw269_0)⟩ (fun hHeld => ?_)
            clear hK K
            refine norm_ (a' := ?_) ?_ ?_
            rotate_left
            ·
             show Act.put _ (some 9) _ = _
             simp only [Act.put, List.setIfInBounds_toArray, List.set_cons_zero, List.set_cons_succ, i64_w, i32_w]
             rfl
            exact norm_ (by simp only [putAll, Act.put, List.setIfInBounds_toArray, List.set_cons_zero, List.set_cons_succ]) (hCont (gb279) _ ⟨hHeld, (by (with_reducible repeat (first | apply Kd.R_alloc | apply Kd.R_drewN | apply Kd.R_drew)); exact HO_250000.out), (by (with_reducible repeat (first | refine blk_drewN ?_ _ | refine blk_drew ?_ | refine blk_alloc ?_ _)); exact BK244.out), (by (with_reducible repeat (first | refine blk_drewN ?_ _ | refine blk_drew ?_ | refine blk_alloc ?_ _)); exact BK245.out), (by (with_reducible repeat (first | refine blk_drewN ?_ _ | refine blk_drew ?_ | refine blk_alloc ?_ _)); exact BK249.out), (by (with_reducible repeat (first | refine blk_drewN ?_ _ | refine blk_drew ?_ | refine blk_alloc ?_ _)); exact BK250.out), (by (with_reducible repeat (first | refine blk_drewN ?_ _ | refine blk_drew ?_ | refine blk_alloc ?_ _)); exact BK251.out), (by (with_reducible repeat (first | refine blk_drewN ?_ _ | refine blk_drew ?_ | refine blk_alloc ?_ _)); exact BK279.out), GW279.out, GE279.out, NB244_279.out, NB279_244.out, NB245_279.out, NB279_245.out, NB249_279.out, NB279_249.out, NB250_279.out, NB279_250.out, NB251_279.out, NB279_251.out, (by repeat (first | (with_reducible first | exact HB.out | apply below_alloc | apply pw_below_drewN | apply below_drew1 | refine below_set ?_ GE244.out | refine below_set ?_ GE245.out | refine below_set ?_ GE249.out | refine below_set ?_ GE250.out | refine below_set ?_ GE251.out | refine below_set ?_ GE279.out) | exact HB.out))⟩)
           ·
            skip
            refine box_step ?hg (N := 9) ?hd (cs := #[.int .u32 0, .int .u32 0, .int .u32 0, .int .u32 0, .int .u32 0, .int .u32 0, .int .u32 0, .int .u32 0]) (t := 45) ?hr ?_; (case hd => rfl); (case hg => rfl); (case hr => first | (go_simp; done) | (go_simp; rfl))
            intro gb279 hg w46 hbox hb
            have n0_ := Aside0.mk (Kd.R_below (by (with_reducible repeat (first | apply Kd.R_alloc | apply Kd.R_drewN | apply Kd.R_drew)); exact HO_250000.out) hb)
            have n1_ := offertoryref09_Stats.keepB BK244 hb
            have n2_ := offertoryref09_Stats.keepB BK245 hb
            have n3_ := offertoryref09_Stats.keepB BK249 hb
            have n4_ := offertoryref09_Stats.keepB BK250 hb
            have n5_ := offertoryref09_Stats.keepB BK251 hb
            have n6_ := Aside0.mk (below_step (by repeat (first | (with_reducible first | exact HB.out | apply below_alloc | apply pw_below_drewN | apply below_drew1 | refine below_set ?_ GE244.out | refine below_set ?_ GE245.out | refine below_set ?_ GE249.out | refine below_set ?_ GE250.out | refine below_set ?_ GE251.out) | exact HB.out)) hb)
            have n7_ := Aside0.mk (hbox)
            have n8_ := Aside0.mk ((by rw [hg]; exact (below_size (by repeat (first | (with_reducible first | exact HB.out | apply below_alloc | apply pw_below_drewN | apply below_drew1 | refine below_set ?_ GE244.out | refine below_set ?_ GE245.out | refine below_set ?_ GE249.out | refine below_set ?_ GE250.out | refine below_set ?_ GE251.out) | exact HB.out))) : w.heap.size ≤ gb279))
            have n9_ := Aside0.mk ((by rw [hg]; exact (below_size (by repeat (first | (with_reducible first | exact HB.out | apply below_alloc | apply pw_below_drewN | apply below_drew1 | refine below_set ?_ GE244.out | refine below_set ?_ GE245.out | refine below_set ?_ GE249.out | refine below_set ?_ GE250.out | refine below_set ?_ GE251.out) | exact HB.out))) : w.heap.size ≤ gb279))
            have n10_ := offertoryref09_Stats.neL BK244 hg
            have n11_ := offertoryref09_Stats.neG BK244 hg
            have n12_ := offertoryref09_Stats.neL BK245 hg
            have n13_ := offertoryref09_Stats.neG BK245 hg
            have n14_ := offertoryref09_Stats.neL BK249 hg
            have n15_ := offertoryref09_Stats.neG BK249 hg
            have n16_ := offertoryref09_Stats.neL BK250 hg
            have n17_ := offertoryref09_Stats.neG BK250 hg
            have n18_ := offertoryref09_Stats.neL BK251 hg
            have n19_ := offertoryref09_Stats.neG BK251 hg
            clear HO_250000
            clear BK244
            clear BK245
            clear BK249
            clear BK250
            clear BK251
            clear HB
            have HO_250000 := n0_
            have BK244 := n1_
            have BK245 := n2_
            have BK249 := n3_
            have BK250 := n4_
            have BK251 := n5_
            have HB := n6_
            have BK279 := n7_
            have GW279 := n8_
            have GE279 := n9_
            have NB244_279 := n10_
            have NB279_244 := n11_
            have NB245_279 := n12_
            have NB279_245 := n13_
            have NB249_279 := n14_
            have NB279_249 := n15_
            have NB250_279 := n16_
            have NB279_250 := n17_
            have NB251_279 := n18_
            have NB279_251 := n19_
            clear n0_ n1_ n2_ n3_ n4_ n5_ n6_ n7_ n8_ n9_ n10_ n11_ n12_ n13_ n14_ n15_ n16_ n17_ n18_ n19_
            clear hb hbox hg
            refine hK.out _ _ ⟨(blk_cell BK244.out 0).trans rfl, (blk_cell BK244.out 1).trans rfl, (blk_cell BK244.out 2).trans rfl, (blk_cell BK244.out 3).trans rfl, ((HB.out.cell (World.block_lt_of_cell? w _ hw269_0)).trans hw269_0)⟩ (fun hHeld => ?_)
            clear hK K
            refine norm_ (a' := ?_) ?_ ?_
            rotate_left
            ·
             show Act.put _ (some 9) _ = _
             simp only [Act.put, List.setIfInBounds_toArray, List.set_cons_zero, List.set_cons_succ, i64_w, i32_w]
             rfl
            refine one_ (i := 6) (N := some 44) #[T, T, T, T, T, T, T, T, F] rfl rfl (one_of HT_.out (by kernel_rfl)) (by decide) (fun K hK => ?_)
            refine goes_ Try.func29 (by kernel_rfl) rfl #[.int .i64 t270] (by rfl) rfl rfl (by (try simp only [List.map_toArray, List.map_cons, List.map_nil]); first | done | rfl | (simp only [List.length_drop, List.length_take]; rfl)) ?_
            with_reducible refine (offertoryref09_Int.calls t270 t271 t272 t273 t274 t275 t276 t277 t278 _ A35.out).mono ?_
            rintro e w47 ⟨rfl, hb⟩
            refine ⟨_, rfl, ?_⟩
            have n0_ := Aside0.mk (Kd.R_below (by (with_reducible repeat (first | apply Kd.R_alloc | apply Kd.R_drewN | apply Kd.R_drew)); exact HO_250000.out) hb)
            have n1_ := offertoryref09_Stats.keepB BK244 hb
            have n2_ := offertoryref09_Stats.keepB BK245 hb
            have n3_ := offertoryref09_Stats.keepB BK249 hb
            have n4_ := offertoryref09_Stats.keepB BK250 hb
            have n5_ := offertoryref09_Stats.keepB BK251 hb
            have n6_ := offertoryref09_Stats.keepB BK279 hb
            have n7_ := Aside0.mk (below_step (by repeat (first | (with_reducible first | exact HB.out | apply below_alloc | apply pw_below_drewN | apply below_drew1 | refine below_set ?_ GE244.out | refine below_set ?_ GE245.out | refine below_set ?_ GE249.out | refine below_set ?_ GE250.out | refine below_set ?_ GE251.out | refine below_set ?_ GE279.out) | exact HB.out)) hb)
            clear HO_250000
            clear BK244
            clear BK245
            clear BK249
            clear BK250
            clear BK251
            clear BK279
            clear HB
            have HO_250000 := n0_
            have BK244 := n1_
            have BK245 := n2_
            have BK249 := n3_
            have BK250 := n4_
            have BK251 := n5_
            have BK279 := n6_
            have HB := n7_
            clear n0_ n1_ n2_ n3_ n4_ n5_ n6_ n7_
            (try clear hb)
            (try clear hb2)
            (try clear hk)
            (try clear hi)
            refine hK.out _ _ ⟨(blk_cell BK244.out 0).trans rfl, (blk_cell BK244.out 1).trans rfl, (blk_cell BK244.out 2).trans rfl, (blk_cell BK244.out 3).trans rfl, ((HB.out.cell (World.block_lt_of_cell? w _ hw269_0)).trans hw269_0)⟩ (fun hHeld => ?_)
            clear hK K
            refine norm_ (a' := ?_) ?_ ?_
            rotate_left
            ·
             show Act.put _ (some 44) _ = _
             simp only [Act.put, List.setIfInBounds_toArray, List.set_cons_zero, List.set_cons_succ, i64_w, i32_w]
             rfl
            exact norm_ (by simp only [putAll, Act.put, List.setIfInBounds_toArray, List.set_cons_zero, List.set_cons_succ]) (hCont (gb279) _ ⟨hHeld, (by (with_reducible repeat (first | apply Kd.R_alloc | apply Kd.R_drewN | apply Kd.R_drew)); exact HO_250000.out), (by (with_reducible repeat (first | refine blk_drewN ?_ _ | refine blk_drew ?_ | refine blk_alloc ?_ _)); exact BK244.out), (by (with_reducible repeat (first | refine blk_drewN ?_ _ | refine blk_drew ?_ | refine blk_alloc ?_ _)); exact BK245.out), (by (with_reducible repeat (first | refine blk_drewN ?_ _ | refine blk_drew ?_ | refine blk_alloc ?_ _)); exact BK249.out), (by (with_reducible repeat (first | refine blk_drewN ?_ _ | refine blk_drew ?_ | refine blk_alloc ?_ _)); exact BK250.out), (by (with_reducible repeat (first | refine blk_drewN ?_ _ | refine blk_drew ?_ | refine blk_alloc ?_ _)); exact BK251.out), (by (with_reducible repeat (first | refine blk_drewN ?_ _ | refine blk_drew ?_ | refine blk_alloc ?_ _)); exact BK279.out), GW279.out, GE279.out, NB244_279.out, NB279_244.out, NB245_279.out, NB279_245.out, NB249_279.out, NB279_249.out, NB250_279.out, NB279_250.out, NB251_279.out, NB279_251.out, (by repeat (first | (with_reducible first | exact HB.out | apply below_alloc | apply pw_below_drewN | apply below_drew1 | refine below_set ?_ GE244.out | refine below_set ?_ GE245.out | refine below_set ?_ GE249.out | refine below_set ?_ GE250.out | refine below_set ?_ GE251.out | refine below_set ?_ GE279.out) | exact HB.out))⟩)
          ·
           skip
           refine box_step ?hg (N := 9) ?hd (cs := #[.int .u32 0, .int .u32 0, .int .u32 0, .int .u32 0, .int .u32 0, .int .u32 0, .int .u32 0, .int .u32 0]) (t := 45) ?hr ?_; (case hd => rfl); (case hg => rfl); (case hr => first | (go_simp; done) | (go_simp; rfl))
           intro gb279 hg w45 hbox hb
           have n0_ := Aside0.mk (Kd.R_below (by (with_reducible repeat (first | apply Kd.R_alloc | apply Kd.R_drewN | apply Kd.R_drew)); exact HO_250000.out) hb)
           have n1_ := offertoryref09_Stats.keepB BK244 hb
           have n2_ := offertoryref09_Stats.keepB BK245 hb
           have n3_ := offertoryref09_Stats.keepB BK249 hb
           have n4_ := offertoryref09_Stats.keepB BK250 hb
           have n5_ := offertoryref09_Stats.keepB BK251 hb
           have n6_ := Aside0.mk (below_step (by repeat (first | (with_reducible first | exact HB.out | apply below_alloc | apply pw_below_drewN | apply below_drew1 | refine below_set ?_ GE244.out | refine below_set ?_ GE245.out | refine below_set ?_ GE249.out | refine below_set ?_ GE250.out | refine below_set ?_ GE251.out) | exact HB.out)) hb)
           have n7_ := Aside0.mk (hbox)
           have n8_ := Aside0.mk ((by rw [hg]; exact (below_size (by repeat (first | (with_reducible first | exact HB.out | apply below_alloc | apply pw_below_drewN | apply below_drew1 | refine below_set ?_ GE244.out | refine below_set ?_ GE245.out | refine below_set ?_ GE249.out | refine below_set ?_ GE250.out | refine below_set ?_ GE251.out) | exact HB.out))) : w.heap.size ≤ gb279))
           have n9_ := Aside0.mk ((by rw [hg]; exact (below_size (by repeat (first | (with_reducible first | exact HB.out | apply below_alloc | apply pw_below_drewN | apply below_drew1 | refine below_set ?_ GE244.out | refine below_set ?_ GE245.out | refine below_set ?_ GE249.out | refine below_set ?_ GE250.out | refine below_set ?_ GE251.out) | exact HB.out))) : w.heap.size ≤ gb279))
           have n10_ := offertoryref09_Stats.neL BK244 hg
           have n11_ := offertoryref09_Stats.neG BK244 hg
           have n12_ := offertoryref09_Stats.neL BK245 hg
           have n13_ := offertoryref09_Stats.neG BK245 hg
           have n14_ := offertoryref09_Stats.neL BK249 hg
           have n15_ := offertoryref09_Stats.neG BK249 hg
           have n16_ := offertoryref09_Stats.neL BK250 hg
           have n17_ := offertoryref09_Stats.neG BK250 hg
           have n18_ := offertoryref09_Stats.neL BK251 hg
           have n19_ := offertoryref09_Stats.neG BK251 hg
           clear HO_250000
           clear BK244
           clear BK245
           clear BK249
           clear BK250
           clear BK251
           clear HB
           have HO_250000 := n0_
           have BK244 := n1_
           have BK245 := n2_
           have BK249 := n3_
           have BK250 := n4_
           have BK251 := n5_
           have HB := n6_
           have BK279 := n7_
           have GW279 := n8_
           have GE279 := n9_
           have NB244_279 := n10_
           have NB279_244 := n11_
           have NB245_279 := n12_
           have NB279_245 := n13_
           have NB249_279 := n14_
           have NB279_249 := n15_
           have NB250_279 := n16_
           have NB279_250 := n17_
           have NB251_279 := n18_
           have NB279_251 := n19_
           clear n0_ n1_ n2_ n3_ n4_ n5_ n6_ n7_ n8_ n9_ n10_ n11_ n12_ n13_ n14_ n15_ n16_ n17_ n18_ n19_
           clear hb hbox hg
           refine hK.out _ _ ⟨(blk_cell BK244.out 0).trans rfl, (blk_cell BK244.out 1).trans rfl, (blk_cell BK244.out 2).trans rfl, (blk_cell BK244.out 3).trans rfl, ((HB.out.cell (World.block_lt_of_cell? w _ hw269_0)).trans hw269_0)⟩ (fun hHeld => ?_)
           clear hK K
           refine norm_ (a' := ?_) ?_ ?_
           rotate_left
           ·
            show Act.put _ (some 9) _ = _
            simp only [Act.put, List.setIfInBounds_toArray, List.set_cons_zero, List.set_cons_succ, i64_w, i32_w]
            rfl
           refine one_ (i := 5) (N := some 43) #[T, T, T, T, T, T, F, T, F] rfl rfl (one_of HT_.out (by kernel_rfl)) (by decide) (fun K hK => ?_)
           refine goes_ Try.func30 (by kernel_rfl) rfl #[.agg #[.int .i64 a0_0, .int .i64 a0_1, .int .i64 a0_2, .slice A0_3 l0_3.length c0_3], .int .i64 (rd l1 x8_1)] (by rfl) rfl rfl (by (try simp only [List.map_toArray, List.map_cons, List.map_nil]); first | done | rfl | (simp only [List.length_drop, List.length_take]; rfl)) ?_
           with_reducible refine (offertoryref09_Clamp.calls a0_0 a0_1 a0_2 _ _ l0_3 (rd l1 x8_1) t270 _ ?side1 ?side2 A34.out).mono ?_
           (case side1 => repeat (first | exact (Kd.C_below HR0_3.out HB.out) | (with_reducible refine Kd.C_alloc ?_ _) | (with_reducible refine Kd.C_drewN ?_ _) | (with_reducible refine Kd.C_drew ?_)))
           (case side2 => exact HC0_3.out)
           rintro e w46 ⟨rfl, hb⟩
           refine ⟨_, rfl, ?_⟩
           have n0_ := Aside0.mk (Kd.R_below (by (with_reducible repeat (first | apply Kd.R_alloc | apply Kd.R_drewN | apply Kd.R_drew)); exact HO_250000.out) hb)
           have n1_ := offertoryref09_Stats.keepB BK244 hb
           have n2_ := offertoryref09_Stats.keepB BK245 hb
           have n3_ := offertoryref09_Stats.keepB BK249 hb
           have n4_ := offertoryref09_Stats.keepB BK250 hb
           have n5_ := offertoryref09_Stats.keepB BK251 hb
           have n6_ := offertoryref09_Stats.keepB BK279 hb
           have n7_ := Aside0.mk (below_step (by repeat (first | (with_reducible first | exact HB.out | apply below_alloc | apply pw_below_drewN | apply below_drew1 | refine below_set ?_ GE244.out | refine below_set ?_ GE245.out | refine below_set ?_ GE249.out | refine below_set ?_ GE250.out | refine below_set ?_ GE251.out | refine below_set ?_ GE279.out) | exact HB.out)) hb)
           clear HO_250000
           clear BK244
           clear BK245
           clear BK249
           clear BK250
           clear BK251
           clear BK279
           clear HB
           have HO_250000 := n0_
           have BK244 := n1_
           have BK245 := n2_
           have BK249 := n3_
           have BK250 := n4_
           have BK251 := n5_
           have BK279 := n6_
           have HB := n7_
           clear n0_ n1_ n2_ n3_ n4_ n5_ n6_ n7_
           (try clear hb)
           (try clear hb2)
           (try clear hk)
           (try clear hi)
           refine hK.out _ _ ⟨(blk_cell BK244.out 0).trans rfl, (blk_cell BK244.out 1).trans rfl, (blk_cell BK244.out 2).trans rfl, (blk_cell BK244.out 3).trans rfl, ((HB.out.cell (World.block_lt_of_cell? w _ hw269_0)).trans hw269_0)⟩ (fun hHeld => ?_)
           clear hK K
           refine norm_ (a' := ?_) ?_ ?_
           rotate_left
           ·
            show Act.put _ (some 43) _ = _
            simp only [Act.put, List.setIfInBounds_toArray, List.set_cons_zero, List.set_cons_succ, i64_w, i32_w]
            rfl
           refine one_ (i := 6) (N := some 44) #[T, T, T, T, T, T, T, T, F] rfl rfl (one_of HT_.out (by kernel_rfl)) (by decide) (fun K hK => ?_)
           refine goes_ Try.func29 (by kernel_rfl) rfl #[.int .i64 t270] (by rfl) rfl rfl (by (try simp only [List.map_toArray, List.map_cons, List.map_nil]); first | done | rfl | (simp only [List.length_drop, List.length_take]; rfl)) ?_
           with_reducible refine (offertoryref09_Int.calls t270 t271 t272 t273 t274 t275 t276 t277 t278 _ A35.out).mono ?_
           rintro e w47 ⟨rfl, hb⟩
           refine ⟨_, rfl, ?_⟩
           have n0_ := Aside0.mk (Kd.R_below (by (with_reducible repeat (first | apply Kd.R_alloc | apply Kd.R_drewN | apply Kd.R_drew)); exact HO_250000.out) hb)
           have n1_ := offertoryref09_Stats.keepB BK244 hb
           have n2_ := offertoryref09_Stats.keepB BK245 hb
           have n3_ := offertoryref09_Stats.keepB BK249 hb
           have n4_ := offertoryref09_Stats.keepB BK250 hb
           have n5_ := offertoryref09_Stats.keepB BK251 hb
           have n6_ := offertoryref09_Stats.keepB BK279 hb
           have n7_ := Aside0.mk (below_step (by repeat (first | (with_reducible first | exact HB.out | apply below_alloc | apply pw_below_drewN | apply below_drew1 | refine below_set ?_ GE244.out | refine below_set ?_ GE245.out | refine below_set ?_ GE249.out | refine below_set ?_ GE250.out | refine below_set ?_ GE251.out | refine below_set ?_ GE279.out) | exact HB.out)) hb)
           clear HO_250000
           clear BK244
           clear BK245
           clear BK249
           clear BK250
           clear BK251
           clear BK279
           clear HB
           have HO_250000 := n0_
           have BK244 := n1_
           have BK245 := n2_
           have BK249 := n3_
           have BK250 := n4_
           have BK251 := n5_
           have BK279 := n6_
           have HB := n7_
           clear n0_ n1_ n2_ n3_ n4_ n5_ n6_ n7_
           (try clear hb)
           (try clear hb2)
           (try clear hk)
           (try clear hi)
           refine hK.out _ _ ⟨(blk_cell BK244.out 0).trans rfl, (blk_cell BK244.out 1).trans rfl, (blk_cell BK244.out 2).trans rfl, (blk_cell BK244.out 3).trans rfl, ((HB.out.cell (World.block_lt_of_cell? w _ hw269_0)).trans hw269_0)⟩ (fun hHeld => ?_)
           clear hK K
           refine norm_ (a' := ?_) ?_ ?_
           rotate_left
           ·
            show Act.put _ (some 44) _ = _
            simp only [Act.put, List.setIfInBounds_toArray, List.set_cons_zero, List.set_cons_succ, i64_w, i32_w]
            rfl
           exact norm_ (by simp only [putAll, Act.put, List.setIfInBounds_toArray, List.set_cons_zero, List.set_cons_succ]) (hCont (gb279) _ ⟨hHeld, (by (with_reducible repeat (first | apply Kd.R_alloc | apply Kd.R_drewN | apply Kd.R_drew)); exact HO_250000.out), (by (with_reducible repeat (first | refine blk_drewN ?_ _ | refine blk_drew ?_ | refine blk_alloc ?_ _)); exact BK244.out), (by (with_reducible repeat (first | refine blk_drewN ?_ _ | refine blk_drew ?_ | refine blk_alloc ?_ _)); exact BK245.out), (by (with_reducible repeat (first | refine blk_drewN ?_ _ | refine blk_drew ?_ | refine blk_alloc ?_ _)); exact BK249.out), (by (with_reducible repeat (first | refine blk_drewN ?_ _ | refine blk_drew ?_ | refine blk_alloc ?_ _)); exact BK250.out), (by (with_reducible repeat (first | refine blk_drewN ?_ _ | refine blk_drew ?_ | refine blk_alloc ?_ _)); exact BK251.out), (by (with_reducible repeat (first | refine blk_drewN ?_ _ | refine blk_drew ?_ | refine blk_alloc ?_ _)); exact BK279.out), GW279.out, GE279.out, NB244_279.out, NB279_244.out, NB245_279.out, NB279_245.out, NB249_279.out, NB279_249.out, NB250_279.out, NB279_250.out, NB251_279.out, NB279_251.out, (by repeat (first | (with_reducible first | exact HB.out | apply below_alloc | apply pw_below_drewN | apply below_drew1 | refine below_set ?_ GE244.out | refine below_set ?_ GE245.out | refine below_set ?_ GE249.out | refine below_set ?_ GE250.out | refine below_set ?_ GE251.out | refine below_set ?_ GE279.out) | exact HB.out))⟩)
         rintro gb279 w48 ⟨hS_, h0_, h1_, h2_, h3_, h4_, h5_, h6_, h7_, h8_, h9_, h10_, h11_, h12_, h13_, h14_, h15_, h16_, h17_, h18_, h19_⟩
         have n0_ : Aside0 (Kd.R (Kd.int .i64) 3 w48 w.heap.size (fun _ => True) (.slice (some ⟨go33, 0, none⟩) x250000_1.length co41) y268) := ⟨h0_⟩
         have n1_ : Aside0 (w48.heap[gb244]? = some (.cells #[.int .i64 a0_0, .int .i64 a0_1, .int .i64 a0_2, .slice A0_3 l0_3.length c0_3] 24 (0, 0))) := ⟨h1_⟩
         have n2_ : Aside0 (w48.heap[gb245]? = some (.cells #[.slice none 0 0, .int .i64 0, .int .u64 0, .int .u64 0, .int .u64 0, .int .u64 0, .bool false] 29 (0, 0))) := ⟨h2_⟩
         have n3_ : Aside0 (w48.heap[gb249]? = some (.cells #[.slice (some ⟨go33, 0, none⟩) x250000_1.length co41, .int .i64 (l1.length : Int), .int .u64 0, .int .u64 0, .int .u64 0, .int .u64 0, .bool false] 29 (0, 0))) := ⟨h3_⟩
         have n4_ : Aside0 (w48.heap[gb250]? = some (.cells #[.int .u32 x251000_1, .int .u32 x251001_1, .int .u32 x251002_1, .int .u32 x251003_1, .int .u32 x251004_1, .int .u32 x251005_1, .int .u32 x251006_1, .int .u32 x251007_1] 45 (0, 0))) := ⟨h4_⟩
         have n5_ : Aside0 (w48.heap[gb251]? = some (.cells #[.int .u32 x252000_1, .int .u32 x252001_1, .int .u32 x252002_1, .int .u32 x252003_1, .int .u32 x252004_1, .int .u32 x252005_1, .int .u32 x252006_1, .int .u32 x252007_1] 45 (0, 0))) := ⟨h5_⟩
         have n6_ : Aside0 (w48.heap[gb279]? = some (.cells #[.int .u32 0, .int .u32 0, .int .u32 0, .int .u32 0, .int .u32 0, .int .u32 0, .int .u32 0, .int .u32 0] 45 (0, 0))) := ⟨h6_⟩
         have n7_ : Aside0 (w.heap.size ≤ gb279) := ⟨h7_⟩
         have n8_ : Aside0 (w.heap.size ≤ gb279) := ⟨h8_⟩
         have n9_ : Aside0 (gb244 ≠ gb279) := ⟨h9_⟩
         have n10_ : Aside0 (gb279 ≠ gb244) := ⟨h10_⟩
         have n11_ : Aside0 (gb245 ≠ gb279) := ⟨h11_⟩
         have n12_ : Aside0 (gb279 ≠ gb245) := ⟨h12_⟩
         have n13_ : Aside0 (gb249 ≠ gb279) := ⟨h13_⟩
         have n14_ : Aside0 (gb279 ≠ gb249) := ⟨h14_⟩
         have n15_ : Aside0 (gb250 ≠ gb279) := ⟨h15_⟩
         have n16_ : Aside0 (gb279 ≠ gb250) := ⟨h16_⟩
         have n17_ : Aside0 (gb251 ≠ gb279) := ⟨h17_⟩
         have n18_ : Aside0 (gb279 ≠ gb251) := ⟨h18_⟩
         have n19_ : Aside0 (Below w.heap.size w w48) := ⟨h19_⟩
         clear HO_250000
         clear BK244
         clear BK245
         clear BK249
         clear BK250
         clear BK251
         clear HB
         clear h0_ h1_ h2_ h3_ h4_ h5_ h6_ h7_ h8_ h9_ h10_ h11_ h12_ h13_ h14_ h15_ h16_ h17_ h18_ h19_
         have HO_250000 := n0_
         have BK244 := n1_
         have BK245 := n2_
         have BK249 := n3_
         have BK250 := n4_
         have BK251 := n5_
         have BK279 := n6_
         have GW279 := n7_
         have GE279 := n8_
         have NB244_279 := n9_
         have NB279_244 := n10_
         have NB245_279 := n11_
         have NB279_245 := n12_
         have NB249_279 := n13_
         have NB279_249 := n14_
         have NB250_279 := n15_
         have NB279_250 := n16_
         have NB251_279 := n17_
         have NB279_251 := n18_
         have HB := n19_
         clear n0_ n1_ n2_ n3_ n4_ n5_ n6_ n7_ n8_ n9_ n10_ n11_ n12_ n13_ n14_ n15_ n16_ n17_ n18_ n19_
         have hHeld : w48.cell? ⟨gb244, 0, none⟩ = some (.int .i64 a0_0) ∧ w48.cell? ⟨gb244, 1, none⟩ = some (.int .i64 a0_1) ∧ w48.cell? ⟨gb244, 2, none⟩ = some (.int .i64 a0_2) ∧ w48.cell? ⟨gb244, 3, none⟩ = some (.slice A0_3 l0_3.length c0_3) ∧ w48.cell? (ad265.add (x8_1).toNat) = some (.int .i64 (rd l1 x8_1)) := hS_
         refine norm_ (a' := ?_) ?_ ?_
         rotate_left
         ·
          simp only [putAll, Act.put, List.setIfInBounds_toArray, List.set_cons_zero, List.set_cons_succ]
          rfl
         refine one_ (i := 8) (N := none) #[T, T, T, T, T, T, T, T, T] rfl rfl (one_of HT_.out (by kernel_rfl)) (by decide) (fun K hK => ?_)
         have hs49 : w48.cell? ⟨gb279, 0, none⟩ = some (.int .u32 0) := (blk_cell BK279.out 0).trans rfl
         have hfs49 := blk_frozen BK279.out 0
         have hns49_0 := NB244_279.out
         have hns49_1 := NB245_279.out
         have hns49_2 := NB249_279.out
         have hns49_3 := NB250_279.out
         have hns49_4 := NB251_279.out
         have hms49_0 := NB279_244.out
         have hms49_1 := NB279_245.out
         have hms49_2 := NB279_249.out
         have hms49_3 := NB279_250.out
         have hms49_4 := NB279_251.out
         have hs50 : w48.cell? ⟨gb279, 1, none⟩ = some (.int .u32 0) := (blk_cell BK279.out 1).trans rfl
         have hfs50 := blk_frozen BK279.out 1
         have hns50_0 := NB244_279.out
         have hns50_1 := NB245_279.out
         have hns50_2 := NB249_279.out
         have hns50_3 := NB250_279.out
         have hns50_4 := NB251_279.out
         have hms50_0 := NB279_244.out
         have hms50_1 := NB279_245.out
         have hms50_2 := NB279_249.out
         have hms50_3 := NB279_250.out
         have hms50_4 := NB279_251.out
         have hs51 : w48.cell? ⟨gb279, 2, none⟩ = some (.int .u32 0) := (blk_cell BK279.out 2).trans rfl
         have hfs51 := blk_frozen BK279.out 2
         have hns51_0 := NB244_279.out
         have hns51_1 := NB245_279.out
         have hns51_2 := NB249_279.out
         have hns51_3 := NB250_279.out
         have hns51_4 := NB251_279.out
         have hms51_0 := NB279_244.out
         have hms51_1 := NB279_245.out
         have hms51_2 := NB279_249.out
         have hms51_3 := NB279_250.out
         have hms51_4 := NB279_251.out
         have hs52 : w48.cell? ⟨gb279, 3, none⟩ = some (.int .u32 0) := (blk_cell BK279.out 3).trans rfl
         have hfs52 := blk_frozen BK279.out 3
         have hns52_0 := NB244_279.out
         have hns52_1 := NB245_279.out
         have hns52_2 := NB249_279.out
         have hns52_3 := NB250_279.out
         have hns52_4 := NB251_279.out
         have hms52_0 := NB279_244.out
         have hms52_1 := NB279_245.out
         have hms52_2 := NB279_249.out
         have hms52_3 := NB279_250.out
         have hms52_4 := NB279_251.out
         have hs53 : w48.cell? ⟨gb279, 4, none⟩ = some (.int .u32 0) := (blk_cell BK279.out 4).trans rfl
         have hfs53 := blk_frozen BK279.out 4
         have hns53_0 := NB244_279.out
         have hns53_1 := NB245_279.out
         have hns53_2 := NB249_279.out
         have hns53_3 := NB250_279.out
         have hns53_4 := NB251_279.out
         have hms53_0 := NB279_244.out
         have hms53_1 := NB279_245.out
         have hms53_2 := NB279_249.out
         have hms53_3 := NB279_250.out
         have hms53_4 := NB279_251.out
         have hs54 : w48.cell? ⟨gb279, 5, none⟩ = some (.int .u32 0) := (blk_cell BK279.out 5).trans rfl
         have hfs54 := blk_frozen BK279.out 5
         have hns54_0 := NB244_279.out
         have hns54_1 := NB245_279.out
         have hns54_2 := NB249_279.out
         have hns54_3 := NB250_279.out
         have hns54_4 := NB251_279.out
         have hms54_0 := NB279_244.out
         have hms54_1 := NB279_245.out
         have hms54_2 := NB279_249.out
         have hms54_3 := NB279_250.out
         have hms54_4 := NB279_251.out
         have hs55 : w48.cell? ⟨gb279, 6, none⟩ = some (.int .u32 0) := (blk_cell BK279.out 6).trans rfl
         have hfs55 := blk_frozen BK279.out 6
         have hns55_0 := NB244_279.out
         have hns55_1 := NB245_279.out
         have hns55_2 := NB249_279.out
         have hns55_3 := NB250_279.out
         have hns55_4 := NB251_279.out
         have hms55_0 := NB279_244.out
         have hms55_1 := NB279_245.out
         have hms55_2 := NB279_249.out
         have hms55_3 := NB279_250.out
         have hms55_4 := NB279_251.out
         have hs56 : w48.cell? ⟨gb279, 7, none⟩ = some (.int .u32 0) := (blk_cell BK279.out 7).trans rfl
         have hfs56 := blk_frozen BK279.out 7
         have hns56_0 := NB244_279.out
         have hns56_1 := NB245_279.out
         have hns56_2 := NB249_279.out
         have hns56_3 := NB250_279.out
         have hns56_4 := NB251_279.out
         have hms56_0 := NB279_244.out
         have hms56_1 := NB279_245.out
         have hms56_2 := NB279_249.out
         have hms56_3 := NB279_250.out
         have hms56_4 := NB279_251.out
         refine skip_ (w1 := ?_) ?_ ?_ ?_ ?_
         rotate_left
         · rfl
         · rfl
         ·
           go_simp
           rfl
         refine hK.out _ _ ⟨((cell_far (p := ⟨gb279, _, none⟩) NB244_279.out _).trans (((cell_far (p := ⟨gb279, _, none⟩) NB244_279.out _).trans (((cell_far (p := ⟨gb279, _, none⟩) NB244_279.out _).trans (((cell_far (p := ⟨gb279, _, none⟩) NB244_279.out _).trans (((cell_far (p := ⟨gb279, _, none⟩) NB244_279.out _).trans (((cell_far (p := ⟨gb279, _, none⟩) NB244_279.out _).trans (((cell_far (p := ⟨gb279, _, none⟩) NB244_279.out _).trans (((cell_far (p := ⟨gb279, _, none⟩) NB244_279.out _).trans (hHeld.1)))))))))))))))), ((cell_far (p := ⟨gb279, _, none⟩) NB244_279.out _).trans (((cell_far (p := ⟨gb279, _, none⟩) NB244_279.out _).trans (((cell_far (p := ⟨gb279, _, none⟩) NB244_279.out _).trans (((cell_far (p := ⟨gb279, _, none⟩) NB244_279.out _).trans (((cell_far (p := ⟨gb279, _, none⟩) NB244_279.out _).trans (((cell_far (p := ⟨gb279, _, none⟩) NB244_279.out _).trans (((cell_far (p := ⟨gb279, _, none⟩) NB244_279.out _).trans (((cell_far (p := ⟨gb279, _, none⟩) NB244_279.out _).trans (hHeld.2.1)))))))))))))))), ((cell_far (p := ⟨gb279, _, none⟩) NB244_279.out _).trans (((cell_far (p := ⟨gb279, _, none⟩) NB244_279.out _).trans (((cell_far (p := ⟨gb279, _, none⟩) NB244_279.out _).trans (((cell_far (p := ⟨gb279, _, none⟩) NB244_279.out _).trans (((cell_far (p := ⟨gb279, _, none⟩) NB244_279.out _).trans (((cell_far (p := ⟨gb279, _, none⟩) NB244_279.out _).trans (((cell_far (p := ⟨gb279, _, none⟩) NB244_279.out _).trans (((cell_far (p := ⟨gb279, _, none⟩) NB244_279.out _).trans (hHeld.2.2.1)))))))))))))))), ((cell_far (p := ⟨gb279, _, none⟩) NB244_279.out _).trans (((cell_far (p := ⟨gb279, _, none⟩) NB244_279.out _).trans (((cell_far (p := ⟨gb279, _, none⟩) NB244_279.out _).trans (((cell_far (p := ⟨gb279, _, none⟩) NB244_279.out _).trans (((cell_far (p := ⟨gb279, _, none⟩) NB244_279.out _).trans (((cell_far (p := ⟨gb279, _, none⟩) NB244_279.out _).trans (((cell_far (p := ⟨gb279, _, none⟩) NB244_279.out _).trans (((cell_far (p := ⟨gb279, _, none⟩) NB244_279.out _).trans (hHeld.2.2.2.1)))))))))))))))), ((cell_far (p := ⟨gb279, _, none⟩) (by first | exact Nat.ne_of_lt (Nat.lt_of_lt_of_le (by have := World.block_lt_of_cell? _ _ hw269_0; first | rwa [add_block] at this | exact this) GW279.out) | (rw [add_block]; exact Nat.ne_of_lt (Nat.lt_of_lt_of_le (by have := World.block_lt_of_cell? _ _ hw269_0; first | rwa [add_block] at this | exact this) GW279.out)) | (show (Addr.add _ _).block ≠ _; rw [add_block]; exact Nat.ne_of_lt (Nat.lt_of_lt_of_le (by have := World.block_lt_of_cell? _ _ hw269_0; first | rwa [add_block] at this | exact this) GW279.out)) | (dsimp only; exact Nat.ne_of_lt (Nat.lt_of_lt_of_le (by have := World.block_lt_of_cell? _ _ hw269_0; first | rwa [add_block] at this | exact this) GW279.out))) _).trans (((cell_far (p := ⟨gb279, _, none⟩) (by first | exact Nat.ne_of_lt (Nat.lt_of_lt_of_le (by have := World.block_lt_of_cell? _ _ hw269_0; first | rwa [add_block] at this | exact this) GW279.out) | (rw [add_block]; exact Nat.ne_of_lt (Nat.lt_of_lt_of_le (by have := World.block_lt_of_cell? _ _ hw269_0; first | rwa [add_block] at this | exact this) GW279.out)) | (show (Addr.add _ _).block ≠ _; rw [add_block]; exact Nat.ne_of_lt (Nat.lt_of_lt_of_le (by have := World.block_lt_of_cell? _ _ hw269_0; first | rwa [add_block] at this | exact this) GW279.out)) | (dsimp only; exact Nat.ne_of_lt (Nat.lt_of_lt_of_le (by have := World.block_lt_of_cell? _ _ hw269_0; first | rwa [add_block] at this | exact this) GW279.out))) _).trans (((cell_far (p := ⟨gb279, _, none⟩) (by first | exact Nat.ne_of_lt (Nat.lt_of_lt_of_le (by have := World.block_lt_of_cell? _ _ hw269_0; first | rwa [add_block] at this | exact this) GW279.out) | (rw [add_block]; exact Nat.ne_of_lt (Nat.lt_of_lt_of_le (by have := World.block_lt_of_cell? _ _ hw269_0; first | rwa [add_block] at this | exact this) GW279.out)) | (show (Addr.add _ _).block ≠ _; rw [add_block]; exact Nat.ne_of_lt (Nat.lt_of_lt_of_le (by have := World.block_lt_of_cell? _ _ hw269_0; first | rwa [add_block] at this | exact this) GW279.out)) | (dsimp only; exact Nat.ne_of_lt (Nat.lt_of_lt_of_le (by have := World.block_lt_of_cell? _ _ hw269_0; first | rwa [add_block] at this | exact this) GW279.out))) _).trans (((cell_far (p := ⟨gb279, _, none⟩) (by first | exact Nat.ne_of_lt (Nat.lt_of_lt_of_le (by have := World.block_lt_of_cell? _ _ hw269_0; first | rwa [add_block] at this | exact this) GW279.out) | (rw [add_block]; exact Nat.ne_of_lt (Nat.lt_of_lt_of_le (by have := World.block_lt_of_cell? _ _ hw269_0; first | rwa [add_block] at this | exact this) GW279.out)) | (show (Addr.add _ _).block ≠ _; rw [add_block]; exact Nat.ne_of_lt (Nat.lt_of_lt_of_le (by have := World.block_lt_of_cell? _ _ hw269_0; first | rwa [add_block] at this | exact this) GW279.out)) | (dsimp only; exact Nat.ne_of_lt (Nat.lt_of_lt_of_le (by have := World.block_lt_of_cell? _ _ hw269_0; first | rwa [add_block] at this | exact this) GW279.out))) _).trans (((cell_far (p := ⟨gb279, _, none⟩) (by first | exact Nat.ne_of_lt (Nat.lt_of_lt_of_le (by have := World.block_lt_of_cell? _ _ hw269_0; first | rwa [add_block] at this | exact this) GW279.out) | (rw [add_block]; exact Nat.ne_of_lt (Nat.lt_of_lt_of_le (by have := World.block_lt_of_cell? _ _ hw269_0; first | rwa [add_block] at this | exact this) GW279.out)) | (show (Addr.add _ _).block ≠ _; rw [add_block]; exact Nat.ne_of_lt (Nat.lt_of_lt_of_le (by have := World.block_lt_of_cell? _ _ hw269_0; first | rwa [add_block] at this | exact this) GW279.out)) | (dsimp only; exact Nat.ne_of_lt (Nat.lt_of_lt_of_le (by have := World.block_lt_of_cell? _ _ hw269_0; first | rwa [add_block] at this | exact this) GW279.out))) _).trans (((cell_far (p := ⟨gb279, _, none⟩) (by first | exact Nat.ne_of_lt (Nat.lt_of_lt_of_le (by have := World.block_lt_of_cell? _ _ hw269_0; first | rwa [add_block] at this | exact this) GW279.out) | (rw [add_block]; exact Nat.ne_of_lt (Nat.lt_of_lt_of_le (by have := World.block_lt_of_cell? _ _ hw269_0; first | rwa [add_block] at this | exact this) GW279.out)) | (show (Addr.add _ _).block ≠ _; rw [add_block]; exact Nat.ne_of_lt (Nat.lt_of_lt_of_le (by have := World.block_lt_of_cell? _ _ hw269_0; first | rwa [add_block] at this | exact this) GW279.out)) | (dsimp only; exact Nat.ne_of_lt (Nat.lt_of_lt_of_le (by have := World.block_lt_of_cell? _ _ hw269_0; first | rwa [add_block] at this | exact this) GW279.out))) _).trans (((cell_far (p := ⟨gb279, _, none⟩) (by first | exact Nat.ne_of_lt (Nat.lt_of_lt_of_le (by have := World.block_lt_of_cell? _ _ hw269_0; first | rwa [add_block] at this | exact this) GW279.out) | (rw [add_block]; exact Nat.ne_of_lt (Nat.lt_of_lt_of_le (by have := World.block_lt_of_cell? _ _ hw269_0; first | rwa [add_block] at this | exact this) GW279.out)) | (show (Addr.add _ _).block ≠ _; rw [add_block]; exact Nat.ne_of_lt (Nat.lt_of_lt_of_le (by have := World.block_lt_of_cell? _ _ hw269_0; first | rwa [add_block] at this | exact this) GW279.out)) | (dsimp only; exact Nat.ne_of_lt (Nat.lt_of_lt_of_le (by have := World.block_lt_of_cell? _ _ hw269_0; first | rwa [add_block] at this | exact this) GW279.out))) _).trans (((cell_far (p := ⟨gb279, _, none⟩) (by first | exact Nat.ne_of_lt (Nat.lt_of_lt_of_le (by have := World.block_lt_of_cell? _ _ hw269_0; first | rwa [add_block] at this | exact this) GW279.out) | (rw [add_block]; exact Nat.ne_of_lt (Nat.lt_of_lt_of_le (by have := World.block_lt_of_cell? _ _ hw269_0; first | rwa [add_block] at this | exact this) GW279.out)) | (show (Addr.add _ _).block ≠ _; rw [add_block]; exact Nat.ne_of_lt (Nat.lt_of_lt_of_le (by have := World.block_lt_of_cell? _ _ hw269_0; first | rwa [add_block] at this | exact this) GW279.out)) | (dsimp only; exact Nat.ne_of_lt (Nat.lt_of_lt_of_le (by have := World.block_lt_of_cell? _ _ hw269_0; first | rwa [add_block] at this | exact this) GW279.out))) _).trans (hHeld.2.2.2.2))))))))))))))))⟩ (fun hHeld => ?_)
         clear hK K
         refine done_ (done_of HT_.out (by kernel_rfl)) ?_
         try go_wp2
         have n0_ : Aside0 (Kd.R (Kd.int .i64) 3 ((((((((w48.setCell ⟨gb279, 0, none⟩ (.int .u32 t271)).setCell ⟨gb279, 1, none⟩ (.int .u32 t272)).setCell ⟨gb279, 2, none⟩ (.int .u32 t273)).setCell ⟨gb279, 3, none⟩ (.int .u32 t274)).setCell ⟨gb279, 4, none⟩ (.int .u32 t275)).setCell ⟨gb279, 5, none⟩ (.int .u32 t276)).setCell ⟨gb279, 6, none⟩ (.int .u32 t277)).setCell ⟨gb279, 7, none⟩ (.int .u32 t278)) w.heap.size (fun _ => True) (.slice (some ⟨go33, 0, none⟩) x250000_1.length co41) y268) := ⟨by (with_reducible repeat (first | apply Kd.R_alloc | apply Kd.R_drewN | apply Kd.R_drew)); exact Kd.R_mono (Kd.R_far (p := ⟨gb279, 7, none⟩) (Kd.R_far (p := ⟨gb279, 6, none⟩) (Kd.R_far (p := ⟨gb279, 5, none⟩) (Kd.R_far (p := ⟨gb279, 4, none⟩) (Kd.R_far (p := ⟨gb279, 3, none⟩) (Kd.R_far (p := ⟨gb279, 2, none⟩) (Kd.R_far (p := ⟨gb279, 1, none⟩) (Kd.R_far (p := ⟨gb279, 0, none⟩) (Kd.R_types HO_250000.out BK279.out (by decide)) (fun _ hk => hk.2) (.int .u32 t271)) (fun _ hk => hk.2) (.int .u32 t272)) (fun _ hk => hk.2) (.int .u32 t273)) (fun _ hk => hk.2) (.int .u32 t274)) (fun _ hk => hk.2) (.int .u32 t275)) (fun _ hk => hk.2) (.int .u32 t276)) (fun _ hk => hk.2) (.int .u32 t277)) (fun _ hk => hk.2) (.int .u32 t278)) (fun _ hk => trivial)⟩
         have n1_ : Aside0 (((((((((w48.setCell ⟨gb279, 0, none⟩ (.int .u32 t271)).setCell ⟨gb279, 1, none⟩ (.int .u32 t272)).setCell ⟨gb279, 2, none⟩ (.int .u32 t273)).setCell ⟨gb279, 3, none⟩ (.int .u32 t274)).setCell ⟨gb279, 4, none⟩ (.int .u32 t275)).setCell ⟨gb279, 5, none⟩ (.int .u32 t276)).setCell ⟨gb279, 6, none⟩ (.int .u32 t277)).setCell ⟨gb279, 7, none⟩ (.int .u32 t278)).heap[gb244]? = some (.cells #[.int .i64 a0_0, .int .i64 a0_1, .int .i64 a0_2, .slice A0_3 l0_3.length c0_3] 24 (0, 0))) := ⟨by (repeat (first | (with_reducible first | refine blk_drewN ?_ _ | refine blk_drew ?_ | refine blk_alloc ?_ _) | refine blk_far ?_ NB244_279.out _)); (with_reducible repeat (first | refine blk_drewN ?_ _ | refine blk_drew ?_ | refine blk_alloc ?_ _)); exact BK244.out⟩
         have n2_ : Aside0 (((((((((w48.setCell ⟨gb279, 0, none⟩ (.int .u32 t271)).setCell ⟨gb279, 1, none⟩ (.int .u32 t272)).setCell ⟨gb279, 2, none⟩ (.int .u32 t273)).setCell ⟨gb279, 3, none⟩ (.int .u32 t274)).setCell ⟨gb279, 4, none⟩ (.int .u32 t275)).setCell ⟨gb279, 5, none⟩ (.int .u32 t276)).setCell ⟨gb279, 6, none⟩ (.int .u32 t277)).setCell ⟨gb279, 7, none⟩ (.int .u32 t278)).heap[gb245]? = some (.cells #[.slice none 0 0, .int .i64 0, .int .u64 0, .int .u64 0, .int .u64 0, .int .u64 0, .bool false] 29 (0, 0))) := ⟨by (repeat (first | (with_reducible first | refine blk_drewN ?_ _ | refine blk_drew ?_ | refine blk_alloc ?_ _) | refine blk_far ?_ NB245_279.out _)); (with_reducible repeat (first | refine blk_drewN ?_ _ | refine blk_drew ?_ | refine blk_alloc ?_ _)); exact BK245.out⟩
         have n3_ : Aside0 (((((((((w48.setCell ⟨gb279, 0, none⟩ (.int .u32 t271)).setCell ⟨gb279, 1, none⟩ (.int .u32 t272)).setCell ⟨gb279, 2, none⟩ (.int .u32 t273)).setCell ⟨gb279, 3, none⟩ (.int .u32 t274)).setCell ⟨gb279, 4, none⟩ (.int .u32 t275)).setCell ⟨gb279, 5, none⟩ (.int .u32 t276)).setCell ⟨gb279, 6, none⟩ (.int .u32 t277)).setCell ⟨gb279, 7, none⟩ (.int .u32 t278)).heap[gb249]? = some (.cells #[.slice (some ⟨go33, 0, none⟩) x250000_1.length co41, .int .i64 (l1.length : Int), .int .u64 0, .int .u64 0, .int .u64 0, .int .u64 0, .bool false] 29 (0, 0))) := ⟨by (repeat (first | (with_reducible first | refine blk_drewN ?_ _ | refine blk_drew ?_ | refine blk_alloc ?_ _) | refine blk_far ?_ NB249_279.out _)); (with_reducible repeat (first | refine blk_drewN ?_ _ | refine blk_drew ?_ | refine blk_alloc ?_ _)); exact BK249.out⟩
         have n4_ : Aside0 (((((((((w48.setCell ⟨gb279, 0, none⟩ (.int .u32 t271)).setCell ⟨gb279, 1, none⟩ (.int .u32 t272)).setCell ⟨gb279, 2, none⟩ (.int .u32 t273)).setCell ⟨gb279, 3, none⟩ (.int .u32 t274)).setCell ⟨gb279, 4, none⟩ (.int .u32 t275)).setCell ⟨gb279, 5, none⟩ (.int .u32 t276)).setCell ⟨gb279, 6, none⟩ (.int .u32 t277)).setCell ⟨gb279, 7, none⟩ (.int .u32 t278)).heap[gb250]? = some (.cells #[.int .u32 x251000_1, .int .u32 x251001_1, .int .u32 x251002_1, .int .u32 x251003_1, .int .u32 x251004_1, .int .u32 x251005_1, .int .u32 x251006_1, .int .u32 x251007_1] 45 (0, 0))) := ⟨by (repeat (first | (with_reducible first | refine blk_drewN ?_ _ | refine blk_drew ?_ | refine blk_alloc ?_ _) | refine blk_far ?_ NB250_279.out _)); (with_reducible repeat (first | refine blk_drewN ?_ _ | refine blk_drew ?_ | refine blk_alloc ?_ _)); exact BK250.out⟩
         have n5_ : Aside0 (((((((((w48.setCell ⟨gb279, 0, none⟩ (.int .u32 t271)).setCell ⟨gb279, 1, none⟩ (.int .u32 t272)).setCell ⟨gb279, 2, none⟩ (.int .u32 t273)).setCell ⟨gb279, 3, none⟩ (.int .u32 t274)).setCell ⟨gb279, 4, none⟩ (.int .u32 t275)).setCell ⟨gb279, 5, none⟩ (.int .u32 t276)).setCell ⟨gb279, 6, none⟩ (.int .u32 t277)).setCell ⟨gb279, 7, none⟩ (.int .u32 t278)).heap[gb251]? = some (.cells #[.int .u32 x252000_1, .int .u32 x252001_1, .int .u32 x252002_1, .int .u32 x252003_1, .int .u32 x252004_1, .int .u32 x252005_1, .int .u32 x252006_1, .int .u32 x252007_1] 45 (0, 0))) := ⟨by (repeat (first | (with_reducible first | refine blk_drewN ?_ _ | refine blk_drew ?_ | refine blk_alloc ?_ _) | refine blk_far ?_ NB251_279.out _)); (with_reducible repeat (first | refine blk_drewN ?_ _ | refine blk_drew ?_ | refine blk_alloc ?_ _)); exact BK251.out⟩
         have n6_ : Aside0 (((((((((w48.setCell ⟨gb279, 0, none⟩ (.int .u32 t271)).setCell ⟨gb279, 1, none⟩ (.int .u32 t272)).setCell ⟨gb279, 2, none⟩ (.int .u32 t273)).setCell ⟨gb279, 3, none⟩ (.int .u32 t274)).setCell ⟨gb279, 4, none⟩ (.int .u32 t275)).setCell ⟨gb279, 5, none⟩ (.int .u32 t276)).setCell ⟨gb279, 6, none⟩ (.int .u32 t277)).setCell ⟨gb279, 7, none⟩ (.int .u32 t278)).heap[gb279]? = some (.cells #[.int .u32 t271, .int .u32 t272, .int .u32 t273, .int .u32 t274, .int .u32 t275, .int .u32 t276, .int .u32 t277, .int .u32 t278] 45 (0, 0))) := ⟨by (with_reducible repeat (first | refine blk_drewN ?_ _ | refine blk_drew ?_ | refine blk_alloc ?_ _)); refine blk_put (cs := #[.int .u32 t271, .int .u32 t272, .int .u32 t273, .int .u32 t274, .int .u32 t275, .int .u32 t276, .int .u32 t277, .int .u32 0]) ?_ 7 _ rfl; (with_reducible repeat (first | refine blk_drewN ?_ _ | refine blk_drew ?_ | refine blk_alloc ?_ _)); refine blk_put (cs := #[.int .u32 t271, .int .u32 t272, .int .u32 t273, .int .u32 t274, .int .u32 t275, .int .u32 t276, .int .u32 0, .int .u32 0]) ?_ 6 _ rfl; (with_reducible repeat (first | refine blk_drewN ?_ _ | refine blk_drew ?_ | refine blk_alloc ?_ _)); refine blk_put (cs := #[.int .u32 t271, .int .u32 t272, .int .u32 t273, .int .u32 t274, .int .u32 t275, .int .u32 0, .int .u32 0, .int .u32 0]) ?_ 5 _ rfl; (with_reducible repeat (first | refine blk_drewN ?_ _ | refine blk_drew ?_ | refine blk_alloc ?_ _)); refine blk_put (cs := #[.int .u32 t271, .int .u32 t272, .int .u32 t273, .int .u32 t274, .int .u32 0, .int .u32 0, .int .u32 0, .int .u32 0]) ?_ 4 _ rfl; (with_reducible repeat (first | refine blk_drewN ?_ _ | refine blk_drew ?_ | refine blk_alloc ?_ _)); refine blk_put (cs := #[.int .u32 t271, .int .u32 t272, .int .u32 t273, .int .u32 0, .int .u32 0, .int .u32 0, .int .u32 0, .int .u32 0]) ?_ 3 _ rfl; (with_reducible repeat (first | refine blk_drewN ?_ _ | refine blk_drew ?_ | refine blk_alloc ?_ _)); refine blk_put (cs := #[.int .u32 t271, .int .u32 t272, .int .u32 0, .int .u32 0, .int .u32 0, .int .u32 0, .int .u32 0, .int .u32 0]) ?_ 2 _ rfl; (with_reducible repeat (first | refine blk_drewN ?_ _ | refine blk_drew ?_ | refine blk_alloc ?_ _)); refine blk_put (cs := #[.int .u32 t271, .int .u32 0, .int .u32 0, .int .u32 0, .int .u32 0, .int .u32 0, .int .u32 0, .int .u32 0]) ?_ 1 _ rfl; (with_reducible repeat (first | refine blk_drewN ?_ _ | refine blk_drew ?_ | refine blk_alloc ?_ _)); refine blk_put (cs := #[.int .u32 0, .int .u32 0, .int .u32 0, .int .u32 0, .int .u32 0, .int .u32 0, .int .u32 0, .int .u32 0]) ?_ 0 _ rfl; (with_reducible repeat (first | refine blk_drewN ?_ _ | refine blk_drew ?_ | refine blk_alloc ?_ _)); exact BK279.out⟩
         have n7_ : Aside0 (Below w.heap.size w ((((((((w48.setCell ⟨gb279, 0, none⟩ (.int .u32 t271)).setCell ⟨gb279, 1, none⟩ (.int .u32 t272)).setCell ⟨gb279, 2, none⟩ (.int .u32 t273)).setCell ⟨gb279, 3, none⟩ (.int .u32 t274)).setCell ⟨gb279, 4, none⟩ (.int .u32 t275)).setCell ⟨gb279, 5, none⟩ (.int .u32 t276)).setCell ⟨gb279, 6, none⟩ (.int .u32 t277)).setCell ⟨gb279, 7, none⟩ (.int .u32 t278))) := ⟨by repeat (first | (with_reducible first | exact HB.out | apply below_alloc | apply pw_below_drewN | apply below_drew1 | refine below_set ?_ GE244.out | refine below_set ?_ GE245.out | refine below_set ?_ GE249.out | refine below_set ?_ GE250.out | refine below_set ?_ GE251.out | refine below_set ?_ GE279.out) | exact HB.out)⟩
         (try clear HO_250000)
         (try clear BK244)
         (try clear BK245)
         (try clear BK249)
         (try clear BK250)
         (try clear BK251)
         (try clear BK279)
         (try clear HB)
         generalize ((((((((w48.setCell ⟨gb279, 0, none⟩ (.int .u32 t271)).setCell ⟨gb279, 1, none⟩ (.int .u32 t272)).setCell ⟨gb279, 2, none⟩ (.int .u32 t273)).setCell ⟨gb279, 3, none⟩ (.int .u32 t274)).setCell ⟨gb279, 4, none⟩ (.int .u32 t275)).setCell ⟨gb279, 5, none⟩ (.int .u32 t276)).setCell ⟨gb279, 6, none⟩ (.int .u32 t277)).setCell ⟨gb279, 7, none⟩ (.int .u32 t278)) = w57 at n0_ n1_ n2_ n3_ n4_ n5_ n6_ n7_ ⊢
         have HO_250000 := n0_
         have BK244 := n1_
         have BK245 := n2_
         have BK249 := n3_
         have BK250 := n4_
         have BK251 := n5_
         have BK279 := n6_
         have HB := n7_
         clear n0_ n1_ n2_ n3_ n4_ n5_ n6_ n7_
         have n0_ := Aside0.mk (Kd.R_drew HO_250000.out)
         have n1_ := Aside0.mk (blk_drew BK244.out)
         have n2_ := Aside0.mk (blk_drew BK245.out)
         have n3_ := Aside0.mk (blk_drew BK249.out)
         have n4_ := Aside0.mk (blk_drew BK250.out)
         have n5_ := Aside0.mk (blk_drew BK251.out)
         have n6_ := Aside0.mk (blk_drew BK279.out)
         have n7_ := Aside0.mk (below_drew1 HB.out)
         clear HO_250000
         clear BK244
         clear BK245
         clear BK249
         clear BK250
         clear BK251
         clear BK279
         clear HB
         have HO_250000 := n0_
         have BK244 := n1_
         have BK245 := n2_
         have BK249 := n3_
         have BK250 := n4_
         have BK251 := n5_
         have BK279 := n6_
         have HB := n7_
         clear n0_ n1_ n2_ n3_ n4_ n5_ n6_ n7_
         refine start_ (n := 10) (S := fun w' => w'.cell? ⟨gb250, 0, none⟩ = some (.int .u32 x251000_1) ∧ w'.cell? ⟨gb250, 1, none⟩ = some (.int .u32 x251001_1) ∧ w'.cell? ⟨gb250, 2, none⟩ = some (.int .u32 x251002_1) ∧ w'.cell? ⟨gb250, 3, none⟩ = some (.int .u32 x251003_1) ∧ w'.cell? ⟨gb250, 4, none⟩ = some (.int .u32 x251004_1) ∧ w'.cell? ⟨gb250, 5, none⟩ = some (.int .u32 x251005_1) ∧ w'.cell? ⟨gb250, 6, none⟩ = some (.int .u32 x251006_1) ∧ w'.cell? ⟨gb250, 7, none⟩ = some (.int .u32 x251007_1) ∧ w'.cell? ⟨gb279, 0, none⟩ = some (.int .u32 t271) ∧ w'.cell? ⟨gb279, 1, none⟩ = some (.int .u32 t272) ∧ w'.cell? ⟨gb279, 2, none⟩ = some (.int .u32 t273) ∧ w'.cell? ⟨gb279, 3, none⟩ = some (.int .u32 t274) ∧ w'.cell? ⟨gb279, 4, none⟩ = some (.int .u32 t275) ∧ w'.cell? ⟨gb279, 5, none⟩ = some (.int .u32 t276) ∧ w'.cell? ⟨gb279, 6, none⟩ = some (.int .u32 t277) ∧ w'.cell? ⟨gb279, 7, none⟩ = some (.int .u32 t278) ∧ w'.cell? ⟨gb251, 0, none⟩ = some (.int .u32 x252000_1) ∧ w'.cell? ⟨gb251, 1, none⟩ = some (.int .u32 x252001_1) ∧ w'.cell? ⟨gb251, 2, none⟩ = some (.int .u32 x252002_1) ∧ w'.cell? ⟨gb251, 3, none⟩ = some (.int .u32 x252003_1) ∧ w'.cell? ⟨gb251, 4, none⟩ = some (.int .u32 x252004_1) ∧ w'.cell? ⟨gb251, 5, none⟩ = some (.int .u32 x252005_1) ∧ w'.cell? ⟨gb251, 6, none⟩ = some (.int .u32 x252006_1) ∧ w'.cell? ⟨gb251, 7, none⟩ = some (.int .u32 x252007_1)) (ds := [8, 9]) #[F, F, F, F, F, F, F, F, F, F] (by kernel_rfl) rfl rfl ⟨(blk_cell BK250.out 0).trans rfl, (blk_cell BK250.out 1).trans rfl, (blk_cell BK250.out 2).trans rfl, (blk_cell BK250.out 3).trans rfl, (blk_cell BK250.out 4).trans rfl, (blk_cell BK250.out 5).trans rfl, (blk_cell BK250.out 6).trans rfl, (blk_cell BK250.out 7).trans rfl, (blk_cell BK279.out 0).trans rfl, (blk_cell BK279.out 1).trans rfl, (blk_cell BK279.out 2).trans rfl, (blk_cell BK279.out 3).trans rfl, (blk_cell BK279.out 4).trans rfl, (blk_cell BK279.out 5).trans rfl, (blk_cell BK279.out 6).trans rfl, (blk_cell BK279.out 7).trans rfl, (blk_cell BK251.out 0).trans rfl, (blk_cell BK251.out 1).trans rfl, (blk_cell BK251.out 2).trans rfl, (blk_cell BK251.out 3).trans rfl, (blk_cell BK251.out 4).trans rfl, (blk_cell BK251.out 5).trans rfl, (blk_cell BK251.out 6).trans rfl, (blk_cell BK251.out 7).trans rfl⟩ (fun hHeld => ?_); refine with_tabW offertoryref09_Stats.tab8 offertoryref09_Stats.bits8 (fun HT_ HW_ => ?_)
         generalize w57.drew = w58 at HO_250000 BK244 BK245 BK249 BK250 BK251 BK279 HB hHeld ⊢
         refine take_ (i := 0) (N := some 45) (v := ?_) (a' := ?_) #[T, F, F, F, F, F, F, F, F, F] rfl rfl (take_ofW HT_.out HW_.out (by kernel_rfl)) (fun _ _ _ h => h) (Or.inl ⟨by rfl, ?_⟩) hHeld ?_ ?_
         rotate_left
         ·
          rintro w' ⟨s0, s1, s2, s3, s4, s5, s6, s7, s8, s9, s10, s11, s12, s13, s14, s15, s16, s17, s18, s19, s20, s21, s22, s23⟩
          (try simp only [add_plain] at s0 s1 s2 s3 s4 s5 s6 s7 s8 s9 s10 s11 s12 s13 s14 s15 s16 s17 s18 s19 s20 s21 s22 s23)
          go_simp
          with_reducible rfl
         rotate_left
         ·
          simp only [Act.put, List.setIfInBounds_toArray, List.set_cons_zero, List.set_cons_succ, i64_w, i32_w]
          rfl
         refine take_ (i := 1) (N := some 46) (v := ?_) (a' := ?_) #[T, T, F, F, F, F, F, F, F, F] rfl rfl (take_ofW HT_.out HW_.out (by kernel_rfl)) (fun _ _ _ h => h) (Or.inl ⟨by rfl, ?_⟩) hHeld ?_ ?_
         rotate_left
         ·
          rintro w' ⟨s0, s1, s2, s3, s4, s5, s6, s7, s8, s9, s10, s11, s12, s13, s14, s15, s16, s17, s18, s19, s20, s21, s22, s23⟩
          (try simp only [add_plain] at s0 s1 s2 s3 s4 s5 s6 s7 s8 s9 s10 s11 s12 s13 s14 s15 s16 s17 s18 s19 s20 s21 s22 s23)
          go_simp
          with_reducible rfl
         rotate_left
         ·
          simp only [Act.put, List.setIfInBounds_toArray, List.set_cons_zero, List.set_cons_succ, i64_w, i32_w]
          rfl
         refine take_ (i := 3) (N := some 48) (v := ?_) (a' := ?_) #[T, T, F, T, F, F, F, F, F, F] rfl rfl (take_ofW HT_.out HW_.out (by kernel_rfl)) (fun _ _ _ h => h) (Or.inl ⟨by rfl, ?_⟩) hHeld ?_ ?_
         rotate_left
         ·
          rintro w' ⟨s0, s1, s2, s3, s4, s5, s6, s7, s8, s9, s10, s11, s12, s13, s14, s15, s16, s17, s18, s19, s20, s21, s22, s23⟩
          (try simp only [add_plain] at s0 s1 s2 s3 s4 s5 s6 s7 s8 s9 s10 s11 s12 s13 s14 s15 s16 s17 s18 s19 s20 s21 s22 s23)
          go_simp
          with_reducible rfl
         rotate_left
         ·
          simp only [Act.put, List.setIfInBounds_toArray, List.set_cons_zero, List.set_cons_succ, i64_w, i32_w]
          rfl
         refine take_ (i := 4) (N := some 49) (v := ?_) (a' := ?_) #[T, T, F, T, T, F, F, F, F, F] rfl rfl (take_ofW HT_.out HW_.out (by kernel_rfl)) (fun _ _ _ h => h) (Or.inl ⟨by rfl, ?_⟩) hHeld ?_ ?_
         rotate_left
         ·
          rintro w' ⟨s0, s1, s2, s3, s4, s5, s6, s7, s8, s9, s10, s11, s12, s13, s14, s15, s16, s17, s18, s19, s20, s21, s22, s23⟩
          (try simp only [add_plain] at s0 s1 s2 s3 s4 s5 s6 s7 s8 s9 s10 s11 s12 s13 s14 s15 s16 s17 s18 s19 s20 s21 s22 s23)
          go_simp
          with_reducible rfl
         rotate_left
         ·
          simp only [Act.put, List.setIfInBounds_toArray, List.set_cons_zero, List.set_cons_succ, i64_w, i32_w]
          rfl
         refine take_ (i := 5) (N := some 50) (v := ?_) (a' := ?_) #[T, T, F, T, T, T, F, F, F, F] rfl rfl (take_ofW HT_.out HW_.out (by kernel_rfl)) (fun _ _ _ h => h) (Or.inl ⟨by rfl, ?_⟩) hHeld ?_ ?_
         rotate_left
         ·
          rintro w' ⟨s0, s1, s2, s3, s4, s5, s6, s7, s8, s9, s10, s11, s12, s13, s14, s15, s16, s17, s18, s19, s20, s21, s22, s23⟩
          (try simp only [add_plain] at s0 s1 s2 s3 s4 s5 s6 s7 s8 s9 s10 s11 s12 s13 s14 s15 s16 s17 s18 s19 s20 s21 s22 s23)
          go_simp
          with_reducible rfl
         rotate_left
         ·
          simp only [Act.put, List.setIfInBounds_toArray, List.set_cons_zero, List.set_cons_succ, i64_w, i32_w]
          rfl
         refine one_ (i := 2) (N := some 47) #[T, T, T, T, T, T, F, F, F, F] rfl rfl (one_of HT_.out (by kernel_rfl)) (by decide) (fun K hK => ?_)
         refine goes_ Try.func31 (by kernel_rfl) rfl #[.agg #[.int .u32 x251000_1, .int .u32 x251001_1, .int .u32 x251002_1, .int .u32 x251003_1, .int .u32 x251004_1, .int .u32 x251005_1, .int .u32 x251006_1, .int .u32 x251007_1], .agg #[.int .u32 t271, .int .u32 t272, .int .u32 t273, .int .u32 t274, .int .u32 t275, .int .u32 t276, .int .u32 t277, .int .u32 t278]] (by rfl) rfl rfl (by (try simp only [List.map_toArray, List.map_cons, List.map_nil]); first | done | rfl | (simp only [List.length_drop, List.length_take]; rfl)) ?_
         with_reducible refine (offertoryref09_Add.calls x251000_1 x251001_1 x251002_1 x251003_1 x251004_1 x251005_1 x251006_1 x251007_1 t271 t272 t273 t274 t275 t276 t277 t278 t280 t281 t282 t283 t284 t285 t286 t287 _ A36.out).mono ?_
         rintro e w59 ⟨rfl, hb⟩
         refine ⟨_, rfl, ?_⟩
         have n0_ := Aside0.mk (Kd.R_below (by (with_reducible repeat (first | apply Kd.R_alloc | apply Kd.R_drewN | apply Kd.R_drew)); exact HO_250000.out) hb)
         have n1_ := offertoryref09_Stats.keepB BK244 hb
         have n2_ := offertoryref09_Stats.keepB BK245 hb
         have n3_ := offertoryref09_Stats.keepB BK249 hb
         have n4_ := offertoryref09_Stats.keepB BK250 hb
         have n5_ := offertoryref09_Stats.keepB BK251 hb
         have n6_ := offertoryref09_Stats.keepB BK279 hb
         have n7_ := Aside0.mk (below_step (by repeat (first | (with_reducible first | exact HB.out | apply below_alloc | apply pw_below_drewN | apply below_drew1 | refine below_set ?_ GE244.out | refine below_set ?_ GE245.out | refine below_set ?_ GE249.out | refine below_set ?_ GE250.out | refine below_set ?_ GE251.out | refine below_set ?_ GE279.out) | exact HB.out)) hb)
         clear HO_250000
         clear BK244
         clear BK245
         clear BK249
         clear BK250
         clear BK251
         clear BK279
         clear HB
         have HO_250000 := n0_
         have BK244 := n1_
         have BK245 := n2_
         have BK249 := n3_
         have BK250 := n4_
         have BK251 := n5_
         have BK279 := n6_
         have HB := n7_
         clear n0_ n1_ n2_ n3_ n4_ n5_ n6_ n7_
         (try clear hb)
         (try clear hb2)
         (try clear hk)
         (try clear hi)
         refine hK.out _ _ ⟨(blk_cell BK250.out 0).trans rfl, (blk_cell BK250.out 1).trans rfl, (blk_cell BK250.out 2).trans rfl, (blk_cell BK250.out 3).trans rfl, (blk_cell BK250.out 4).trans rfl, (blk_cell BK250.out 5).trans rfl, (blk_cell BK250.out 6).trans rfl, (blk_cell BK250.out 7).trans rfl, (blk_cell BK279.out 0).trans rfl, (blk_cell BK279.out 1).trans rfl, (blk_cell BK279.out 2).trans rfl, (blk_cell BK279.out 3).trans rfl, (blk_cell BK279.out 4).trans rfl, (blk_cell BK279.out 5).trans rfl, (blk_cell BK279.out 6).trans rfl, (blk_cell BK279.out 7).trans rfl, (blk_cell BK251.out 0).trans rfl, (blk_cell BK251.out 1).trans rfl, (blk_cell BK251.out 2).trans rfl, (blk_cell BK251.out 3).trans rfl, (blk_cell BK251.out 4).trans rfl, (blk_cell BK251.out 5).trans rfl, (blk_cell BK251.out 6).trans rfl, (blk_cell BK251.out 7).trans rfl⟩ (fun hHeld => ?_)
         clear hK K
         refine norm_ (a' := ?_) ?_ ?_
         rotate_left
         ·
          show Act.put _ (some 47) _ = _
          simp only [Act.put, List.setIfInBounds_toArray, List.set_cons_zero, List.set_cons_succ, i64_w, i32_w]
          rfl
         refine one_ (i := 6) (N := some 51) #[T, T, T, T, T, T, T, F, F, F] rfl rfl (one_of HT_.out (by kernel_rfl)) (by decide) (fun K hK => ?_)
         refine goes_ Try.func19 (by kernel_rfl) rfl #[.agg #[.int .u32 t271, .int .u32 t272, .int .u32 t273, .int .u32 t274, .int .u32 t275, .int .u32 t276, .int .u32 t277, .int .u32 t278], .agg #[.int .u32 t271, .int .u32 t272, .int .u32 t273, .int .u32 t274, .int .u32 t275, .int .u32 t276, .int .u32 t277, .int .u32 t278]] (by rfl) rfl rfl (by (try simp only [List.map_toArray, List.map_cons, List.map_nil]); first | done | rfl | (simp only [List.length_drop, List.length_take]; rfl)) ?_
         with_reducible refine (offertoryref09_Mul.calls t271 t272 t273 t274 t275 t276 t277 t278 t271 t272 t273 t274 t275 t276 t277 t278 t288 t289 t290 t291 t292 t293 t294 t295 _ A37.out).mono ?_
         rintro e w60 ⟨rfl, hb⟩
         refine ⟨_, rfl, ?_⟩
         have n0_ := Aside0.mk (Kd.R_below (by (with_reducible repeat (first | apply Kd.R_alloc | apply Kd.R_drewN | apply Kd.R_drew)); exact HO_250000.out) hb)
         have n1_ := offertoryref09_Stats.keepB BK244 hb
         have n2_ := offertoryref09_Stats.keepB BK245 hb
         have n3_ := offertoryref09_Stats.keepB BK249 hb
         have n4_ := offertoryref09_Stats.keepB BK250 hb
         have n5_ := offertoryref09_Stats.keepB BK251 hb
         have n6_ := offertoryref09_Stats.keepB BK279 hb
         have n7_ := Aside0.mk (below_step (by repeat (first | (with_reducible first | exact HB.out | apply below_alloc | apply pw_below_drewN | apply below_drew1 | refine below_set ?_ GE244.out | refine below_set ?_ GE245.out | refine below_set ?_ GE249.out | refine below_set ?_ GE250.out | refine below_set ?_ GE251.out | refine below_set ?_ GE279.out) | exact HB.out)) hb)
         clear HO_250000
         clear BK244
         clear BK245
         clear BK249
         clear BK250
         clear BK251
         clear BK279
         clear HB
         have HO_250000 := n0_
         have BK244 := n1_
         have BK245 := n2_
         have BK249 := n3_
         have BK250 := n4_
         have BK251 := n5_
         have BK279 := n6_
         have HB := n7_
         clear n0_ n1_ n2_ n3_ n4_ n5_ n6_ n7_
         (try clear hb)
         (try clear hb2)
         (try clear hk)
         (try clear hi)
         refine hK.out _ _ ⟨(blk_cell BK250.out 0).trans rfl, (blk_cell BK250.out 1).trans rfl, (blk_cell BK250.out 2).trans rfl, (blk_cell BK250.out 3).trans rfl, (blk_cell BK250.out 4).trans rfl, (blk_cell BK250.out 5).trans rfl, (blk_cell BK250.out 6).trans rfl, (blk_cell BK250.out 7).trans rfl, (blk_cell BK279.out 0).trans rfl, (blk_cell BK279.out 1).trans rfl, (blk_cell BK279.out 2).trans rfl, (blk_cell BK279.out 3).trans rfl, (blk_cell BK279.out 4).trans rfl, (blk_cell BK279.out 5).trans rfl, (blk_cell BK279.out 6).trans rfl, (blk_cell BK279.out 7).trans rfl, (blk_cell BK251.out 0).trans rfl, (blk_cell BK251.out 1).trans rfl, (blk_cell BK251.out 2).trans rfl, (blk_cell BK251.out 3).trans rfl, (blk_cell BK251.out 4).trans rfl, (blk_cell BK251.out 5).trans rfl, (blk_cell BK251.out 6).trans rfl, (blk_cell BK251.out 7).trans rfl⟩ (fun hHeld => ?_)
         clear hK K
         refine norm_ (a' := ?_) ?_ ?_
         rotate_left
         ·
          show Act.put _ (some 51) _ = _
          simp only [Act.put, List.setIfInBounds_toArray, List.set_cons_zero, List.set_cons_succ, i64_w, i32_w]
          rfl
         refine one_ (i := 7) (N := some 52) #[T, T, T, T, T, T, T, T, F, F] rfl rfl (one_of HT_.out (by kernel_rfl)) (by decide) (fun K hK => ?_)
         refine goes_ Try.func31 (by kernel_rfl) rfl #[.agg #[.int .u32 x252000_1, .int .u32 x252001_1, .int .u32 x252002_1, .int .u32 x252003_1, .int .u32 x252004_1, .int .u32 x252005_1, .int .u32 x252006_1, .int .u32 x252007_1], .agg #[.int .u32 t288, .int .u32 t289, .int .u32 t290, .int .u32 t291, .int .u32 t292, .int .u32 t293, .int .u32 t294, .int .u32 t295]] (by rfl) rfl rfl (by (try simp only [List.map_toArray, List.map_cons, List.map_nil]); first | done | rfl | (simp only [List.length_drop, List.length_take]; rfl)) ?_
         with_reducible refine (offertoryref09_Add.calls x252000_1 x252001_1 x252002_1 x252003_1 x252004_1 x252005_1 x252006_1 x252007_1 t288 t289 t290 t291 t292 t293 t294 t295 t296 t297 t298 t299 t300 t301 t302 t303 _ A38.out).mono ?_
         rintro e w61 ⟨rfl, hb⟩
         refine ⟨_, rfl, ?_⟩
         have n0_ := Aside0.mk (Kd.R_below (by (with_reducible repeat (first | apply Kd.R_alloc | apply Kd.R_drewN | apply Kd.R_drew)); exact HO_250000.out) hb)
         have n1_ := offertoryref09_Stats.keepB BK244 hb
         have n2_ := offertoryref09_Stats.keepB BK245 hb
         have n3_ := offertoryref09_Stats.keepB BK249 hb
         have n4_ := offertoryref09_Stats.keepB BK250 hb
         have n5_ := offertoryref09_Stats.keepB BK251 hb
         have n6_ := offertoryref09_Stats.keepB BK279 hb
         have n7_ := Aside0.mk (below_step (by repeat (first | (with_reducible first | exact HB.out | apply below_alloc | apply pw_below_drewN | apply below_drew1 | refine below_set ?_ GE244.out | refine below_set ?_ GE245.out | refine below_set ?_ GE249.out | refine below_set ?_ GE250.out | refine below_set ?_ GE251.out | refine below_set ?_ GE279.out) | exact HB.out)) hb)
         clear HO_250000
         clear BK244
         clear BK245
         clear BK249
         clear BK250
         clear BK251
         clear BK279
         clear HB
         have HO_250000 := n0_
         have BK244 := n1_
         have BK245 := n2_
         have BK249 := n3_
         have BK250 := n4_
         have BK251 := n5_
         have BK279 := n6_
         have HB := n7_
         clear n0_ n1_ n2_ n3_ n4_ n5_ n6_ n7_
         (try clear hb)
         (try clear hb2)
         (try clear hk)
         (try clear hi)
         refine hK.out _ _ ⟨(blk_cell BK250.out 0).trans rfl, (blk_cell BK250.out 1).trans rfl, (blk_cell BK250.out 2).trans rfl, (blk_cell BK250.out 3).trans rfl, (blk_cell BK250.out 4).trans rfl, (blk_cell BK250.out 5).trans rfl, (blk_cell BK250.out 6).trans rfl, (blk_cell BK250.out 7).trans rfl, (blk_cell BK279.out 0).trans rfl, (blk_cell BK279.out 1).trans rfl, (blk_cell BK279.out 2).trans rfl, (blk_cell BK279.out 3).trans rfl, (blk_cell BK279.out 4).trans rfl, (blk_cell BK279.out 5).trans rfl, (blk_cell BK279.out 6).trans rfl, (blk_cell BK279.out 7).trans rfl, (blk_cell BK251.out 0).trans rfl, (blk_cell BK251.out 1).trans rfl, (blk_cell BK251.out 2).trans rfl, (blk_cell BK251.out 3).trans rfl, (blk_cell BK251.out 4).trans rfl, (blk_cell BK251.out 5).trans rfl, (blk_cell BK251.out 6).trans rfl, (blk_cell BK251.out 7).trans rfl⟩ (fun hHeld => ?_)
         clear hK K
         refine norm_ (a' := ?_) ?_ ?_
         rotate_left
         ·
          show Act.put _ (some 52) _ = _
          simp only [Act.put, List.setIfInBounds_toArray, List.set_cons_zero, List.set_cons_succ, i64_w, i32_w]
          rfl
         refine last_ (i := 8) (N := none) #[T, T, T, T, T, T, T, T, T, F] rfl rfl (one_of HT_.out (by kernel_rfl)) (by decide) (fun K hK => ?_)
         have hs62 : w61.cell? ⟨gb250, 0, none⟩ = some (.int .u32 x251000_1) := (blk_cell BK250.out 0).trans rfl
         have hfs62 := blk_frozen BK250.out 0
         have hns62_0 := NB244_250.out
         have hns62_1 := NB245_250.out
         have hns62_2 := NB249_250.out
         have hns62_4 := NB251_250.out
         have hns62_5 := NB279_250.out
         have hms62_0 := NB250_244.out
         have hms62_1 := NB250_245.out
         have hms62_2 := NB250_249.out
         have hms62_4 := NB250_251.out
         have hms62_5 := NB250_279.out
         have hs63 : w61.cell? ⟨gb250, 1, none⟩ = some (.int .u32 x251001_1) := (blk_cell BK250.out 1).trans rfl
         have hfs63 := blk_frozen BK250.out 1
         have hns63_0 := NB244_250.out
         have hns63_1 := NB245_250.out
         have hns63_2 := NB249_250.out
         have hns63_4 := NB251_250.out
         have hns63_5 := NB279_250.out
         have hms63_0 := NB250_244.out
         have hms63_1 := NB250_245.out
         have hms63_2 := NB250_249.out
         have hms63_4 := NB250_251.out
         have hms63_5 := NB250_279.out
         have hs64 : w61.cell? ⟨gb250, 2, none⟩ = some (.int .u32 x251002_1) := (blk_cell BK250.out 2).trans rfl
         have hfs64 := blk_frozen BK250.out 2
         have hns64_0 := NB244_250.out
         have hns64_1 := NB245_250.out
         have hns64_2 := NB249_250.out
         have hns64_4 := NB251_250.out
         have hns64_5 := NB279_250.out
         have hms64_0 := NB250_244.out
         have hms64_1 := NB250_245.out
         have hms64_2 := NB250_249.out
         have hms64_4 := NB250_251.out
         have hms64_5 := NB250_279.out
         have hs65 : w61.cell? ⟨gb250, 3, none⟩ = some (.int .u32 x251003_1) := (blk_cell BK250.out 3).trans rfl
         have hfs65 := blk_frozen BK250.out 3
         have hns65_0 := NB244_250.out
         have hns65_1 := NB245_250.out
         have hns65_2 := NB249_250.out
         have hns65_4 := NB251_250.out
         have hns65_5 := NB279_250.out
         have hms65_0 := NB250_244.out
         have hms65_1 := NB250_245.out
         have hms65_2 := NB250_249.out
         have hms65_4 := NB250_251.out
         have hms65_5 := NB250_279.out
         have hs66 : w61.cell? ⟨gb250, 4, none⟩ = some (.int .u32 x251004_1) := (blk_cell BK250.out 4).trans rfl
         have hfs66 := blk_frozen BK250.out 4
         have hns66_0 := NB244_250.out
         have hns66_1 := NB245_250.out
         have hns66_2 := NB249_250.out
         have hns66_4 := NB251_250.out
         have hns66_5 := NB279_250.out
         have hms66_0 := NB250_244.out
         have hms66_1 := NB250_245.out
         have hms66_2 := NB250_249.out
         have hms66_4 := NB250_251.out
         have hms66_5 := NB250_279.out
         have hs67 : w61.cell? ⟨gb250, 5, none⟩ = some (.int .u32 x251005_1) := (blk_cell BK250.out 5).trans rfl
         have hfs67 := blk_frozen BK250.out 5
         have hns67_0 := NB244_250.out
         have hns67_1 := NB245_250.out
         have hns67_2 := NB249_250.out
         have hns67_4 := NB251_250.out
         have hns67_5 := NB279_250.out
         have hms67_0 := NB250_244.out
         have hms67_1 := NB250_245.out
         have hms67_2 := NB250_249.out
         have hms67_4 := NB250_251.out
         have hms67_5 := NB250_279.out
         have hs68 : w61.cell? ⟨gb250, 6, none⟩ = some (.int .u32 x251006_1) := (blk_cell BK250.out 6).trans rfl
         have hfs68 := blk_frozen BK250.out 6
         have hns68_0 := NB244_250.out
         have hns68_1 := NB245_250.out
         have hns68_2 := NB249_250.out
         have hns68_4 := NB251_250.out
         have hns68_5 := NB279_250.out
         have hms68_0 := NB250_244.out
         have hms68_1 := NB250_245.out
         have hms68_2 := NB250_249.out
         have hms68_4 := NB250_251.out
         have hms68_5 := NB250_279.out
         have hs69 : w61.cell? ⟨gb250, 7, none⟩ = some (.int .u32 x251007_1) := (blk_cell BK250.out 7).trans rfl
         have hfs69 := blk_frozen BK250.out 7
         have hns69_0 := NB244_250.out
         have hns69_1 := NB245_250.out
         have hns69_2 := NB249_250.out
         have hns69_4 := NB251_250.out
         have hns69_5 := NB279_250.out
         have hms69_0 := NB250_244.out
         have hms69_1 := NB250_245.out
         have hms69_2 := NB250_249.out
         have hms69_4 := NB250_251.out
         have hms69_5 := NB250_279.out
         refine skip_ (w1 := ?_) ?_ ?_ ?_ ?_
         rotate_left
         · rfl
         · rfl
         ·
           go_simp
           rfl
         refine hK.out _ _ ?_
         clear hK K
         refine last_ (i := 9) (N := none) #[T, T, T, T, T, T, T, T, T, T] rfl rfl (one_of HT_.out (by kernel_rfl)) (by decide) (fun K hK => ?_)
         have hs70 : w61.cell? ⟨gb251, 0, none⟩ = some (.int .u32 x252000_1) := (blk_cell BK251.out 0).trans rfl
         have hfs70 := blk_frozen BK251.out 0
         have hns70_0 := NB244_251.out
         have hns70_1 := NB245_251.out
         have hns70_2 := NB249_251.out
         have hns70_3 := NB250_251.out
         have hns70_5 := NB279_251.out
         have hms70_0 := NB251_244.out
         have hms70_1 := NB251_245.out
         have hms70_2 := NB251_249.out
         have hms70_3 := NB251_250.out
         have hms70_5 := NB251_279.out
         have hs71 : w61.cell? ⟨gb251, 1, none⟩ = some (.int .u32 x252001_1) := (blk_cell BK251.out 1).trans rfl
         have hfs71 := blk_frozen BK251.out 1
         have hns71_0 := NB244_251.out
         have hns71_1 := NB245_251.out
         have hns71_2 := NB249_251.out
         have hns71_3 := NB250_251.out
         have hns71_5 := NB279_251.out
         have hms71_0 := NB251_244.out
         have hms71_1 := NB251_245.out
         have hms71_2 := NB251_249.out
         have hms71_3 := NB251_250.out
         have hms71_5 := NB251_279.out
         have hs72 : w61.cell? ⟨gb251, 2, none⟩ = some (.int .u32 x252002_1) := (blk_cell BK251.out 2).trans rfl
         have hfs72 := blk_frozen BK251.out 2
         have hns72_0 := NB244_251.out
         have hns72_1 := NB245_251.out
         have hns72_2 := NB249_251.out
         have hns72_3 := NB250_251.out
         have hns72_5 := NB279_251.out
         have hms72_0 := NB251_244.out
         have hms72_1 := NB251_245.out
         have hms72_2 := NB251_249.out
         have hms72_3 := NB251_250.out
         have hms72_5 := NB251_279.out
         have hs73 : w61.cell? ⟨gb251, 3, none⟩ = some (.int .u32 x252003_1) := (blk_cell BK251.out 3).trans rfl
         have hfs73 := blk_frozen BK251.out 3
         have hns73_0 := NB244_251.out
         have hns73_1 := NB245_251.out
         have hns73_2 := NB249_251.out
         have hns73_3 := NB250_251.out
         have hns73_5 := NB279_251.out
         have hms73_0 := NB251_244.out
         have hms73_1 := NB251_245.out
         have hms73_2 := NB251_249.out
         have hms73_3 := NB251_250.out
         have hms73_5 := NB251_279.out
         have hs74 : w61.cell? ⟨gb251, 4, none⟩ = some (.int .u32 x252004_1) := (blk_cell BK251.out 4).trans rfl
         have hfs74 := blk_frozen BK251.out 4
         have hns74_0 := NB244_251.out
         have hns74_1 := NB245_251.out
         have hns74_2 := NB249_251.out
         have hns74_3 := NB250_251.out
         have hns74_5 := NB279_251.out
         have hms74_0 := NB251_244.out
         have hms74_1 := NB251_245.out
         have hms74_2 := NB251_249.out
         have hms74_3 := NB251_250.out
         have hms74_5 := NB251_279.out
         have hs75 : w61.cell? ⟨gb251, 5, none⟩ = some (.int .u32 x252005_1) := (blk_cell BK251.out 5).trans rfl
         have hfs75 := blk_frozen BK251.out 5
         have hns75_0 := NB244_251.out
         have hns75_1 := NB245_251.out
         have hns75_2 := NB249_251.out
         have hns75_3 := NB250_251.out
         have hns75_5 := NB279_251.out
         have hms75_0 := NB251_244.out
         have hms75_1 := NB251_245.out
         have hms75_2 := NB251_249.out
         have hms75_3 := NB251_250.out
         have hms75_5 := NB251_279.out
         have hs76 : w61.cell? ⟨gb251, 6, none⟩ = some (.int .u32 x252006_1) := (blk_cell BK251.out 6).trans rfl
         have hfs76 := blk_frozen BK251.out 6
         have hns76_0 := NB244_251.out
         have hns76_1 := NB245_251.out
         have hns76_2 := NB249_251.out
         have hns76_3 := NB250_251.out
         have hns76_5 := NB279_251.out
         have hms76_0 := NB251_244.out
         have hms76_1 := NB251_245.out
         have hms76_2 := NB251_249.out
         have hms76_3 := NB251_250.out
         have hms76_5 := NB251_279.out
         have hs77 : w61.cell? ⟨gb251, 7, none⟩ = some (.int .u32 x252007_1) := (blk_cell BK251.out 7).trans rfl
         have hfs77 := blk_frozen BK251.out 7
         have hns77_0 := NB244_251.out
         have hns77_1 := NB245_251.out
         have hns77_2 := NB249_251.out
         have hns77_3 := NB250_251.out
         have hns77_5 := NB279_251.out
         have hms77_0 := NB251_244.out
         have hms77_1 := NB251_245.out
         have hms77_2 := NB251_249.out
         have hms77_3 := NB251_250.out
         have hms77_5 := NB251_279.out
         refine skip_ (w1 := ?_) ?_ ?_ ?_ ?_
         rotate_left
         · rfl
         · rfl
         ·
           go_simp
           rfl
         refine hK.out _ _ ?_
         clear hK K
         refine done_ (done_of HT_.out (by kernel_rfl)) ?_
         try go_wp2
         go_roundg k1
         case measure => have := HK1.out; omega
         case rel => exact ⟨(wrap64 (x8_1 + 1)), (y268), (t280), (t281), (t282), (t283), (t284), (t285), (t286), (t287), (t296), (t297), (t298), (t299), (t300), (t301), (t302), (t303), (.slice (some ⟨go33, 0, none⟩) x250000_1.length co41), (by first | rfl | (simp; done) | (simp [*]; done)), H', ⟨by have := HK1.out; omega⟩, ⟨by (with_reducible repeat (first | apply Kd.R_alloc | apply Kd.R_drewN | apply Kd.R_drew)); exact Kd.R_mono (Kd.R_far (p := ⟨gb251, 7, none⟩) (Kd.R_far (p := ⟨gb251, 6, none⟩) (Kd.R_far (p := ⟨gb251, 5, none⟩) (Kd.R_far (p := ⟨gb251, 4, none⟩) (Kd.R_far (p := ⟨gb251, 3, none⟩) (Kd.R_far (p := ⟨gb251, 2, none⟩) (Kd.R_far (p := ⟨gb251, 1, none⟩) (Kd.R_far (p := ⟨gb251, 0, none⟩) (Kd.R_far (p := ⟨gb250, 7, none⟩) (Kd.R_far (p := ⟨gb250, 6, none⟩) (Kd.R_far (p := ⟨gb250, 5, none⟩) (Kd.R_far (p := ⟨gb250, 4, none⟩) (Kd.R_far (p := ⟨gb250, 3, none⟩) (Kd.R_far (p := ⟨gb250, 2, none⟩) (Kd.R_far (p := ⟨gb250, 1, none⟩) (Kd.R_far (p := ⟨gb250, 0, none⟩) (Kd.R_types (Kd.R_types HO_250000.out BK250.out (by decide)) BK251.out (by decide)) (fun _ hk => hk.1.2) (.int .u32 t280)) (fun _ hk => hk.1.2) (.int .u32 t281)) (fun _ hk => hk.1.2) (.int .u32 t282)) (fun _ hk => hk.1.2) (.int .u32 t283)) (fun _ hk => hk.1.2) (.int .u32 t284)) (fun _ hk => hk.1.2) (.int .u32 t285)) (fun _ hk => hk.1.2) (.int .u32 t286)) (fun _ hk => hk.1.2) (.int .u32 t287)) (fun _ hk => hk.2) (.int .u32 t296)) (fun _ hk => hk.2) (.int .u32 t297)) (fun _ hk => hk.2) (.int .u32 t298)) (fun _ hk => hk.2) (.int .u32 t299)) (fun _ hk => hk.2) (.int .u32 t300)) (fun _ hk => hk.2) (.int .u32 t301)) (fun _ hk => hk.2) (.int .u32 t302)) (fun _ hk => hk.2) (.int .u32 t303)) (fun _ hk => trivial)⟩, ⟨by (repeat (first | (with_reducible first | refine blk_drewN ?_ _ | refine blk_drew ?_ | refine blk_alloc ?_ _) | refine blk_far ?_ NB244_251.out _)); (repeat (first | (with_reducible first | refine blk_drewN ?_ _ | refine blk_drew ?_ | refine blk_alloc ?_ _) | refine blk_far ?_ NB244_250.out _)); (with_reducible repeat (first | refine blk_drewN ?_ _ | refine blk_drew ?_ | refine blk_alloc ?_ _)); exact BK244.out⟩, ⟨by (repeat (first | (with_reducible first | refine blk_drewN ?_ _ | refine blk_drew ?_ | refine blk_alloc ?_ _) | refine blk_far ?_ NB245_251.out _)); (repeat (first | (with_reducible first | refine blk_drewN ?_ _ | refine blk_drew ?_ | refine blk_alloc ?_ _) | refine blk_far ?_ NB245_250.out _)); (with_reducible repeat (first | refine blk_drewN ?_ _ | refine blk_drew ?_ | refine blk_alloc ?_ _)); exact BK245.out⟩, ⟨by (repeat (first | (with_reducible first | refine blk_drewN ?_ _ | refine blk_drew ?_ | refine blk_alloc ?_ _) | refine blk_far ?_ NB249_251.out _)); (repeat (first | (with_reducible first | refine blk_drewN ?_ _ | refine blk_drew ?_ | refine blk_alloc ?_ _) | refine blk_far ?_ NB249_250.out _)); (with_reducible repeat (first | refine blk_drewN ?_ _ | refine blk_drew ?_ | refine blk_alloc ?_ _)); exact BK249.out⟩, ⟨by (repeat (first | (with_reducible first | refine blk_drewN ?_ _ | refine blk_drew ?_ | refine blk_alloc ?_ _) | refine blk_far ?_ NB250_251.out _)); (with_reducible repeat (first | refine blk_drewN ?_ _ | refine blk_drew ?_ | refine blk_alloc ?_ _)); refine blk_put (cs := #[.int .u32 t280, .int .u32 t281, .int .u32 t282, .int .u32 t283, .int .u32 t284, .int .u32 t285, .int .u32 t286, .int .u32 x251007_1]) ?_ 7 _ rfl; (with_reducible repeat (first | refine blk_drewN ?_ _ | refine blk_drew ?_ | refine blk_alloc ?_ _)); refine blk_put (cs := #[.int .u32 t280, .int .u32 t281, .int .u32 t282, .int .u32 t283, .int .u32 t284, .int .u32 t285, .int .u32 x251006_1, .int .u32 x251007_1]) ?_ 6 _ rfl; (with_reducible repeat (first | refine blk_drewN ?_ _ | refine blk_drew ?_ | refine blk_alloc ?_ _)); refine blk_put (cs := #[.int .u32 t280, .int .u32 t281, .int .u32 t282, .int .u32 t283, .int .u32 t284, .int .u32 x251005_1, .int .u32 x251006_1, .int .u32 x251007_1]) ?_ 5 _ rfl; (with_reducible repeat (first | refine blk_drewN ?_ _ | refine blk_drew ?_ | refine blk_alloc ?_ _)); refine blk_put (cs := #[.int .u32 t280, .int .u32 t281, .int .u32 t282, .int .u32 t283, .int .u32 x251004_1, .int .u32 x251005_1, .int .u32 x251006_1, .int .u32 x251007_1]) ?_ 4 _ rfl; (with_reducible repeat (first | refine blk_drewN ?_ _ | refine blk_drew ?_ | refine blk_alloc ?_ _)); refine blk_put (cs := #[.int .u32 t280, .int .u32 t281, .int .u32 t282, .int .u32 x251003_1, .int .u32 x251004_1, .int .u32 x251005_1, .int .u32 x251006_1, .int .u32 x251007_1]) ?_ 3 _ rfl; (with_reducible repeat (first | refine blk_drewN ?_ _ | refine blk_drew ?_ | refine blk_alloc ?_ _)); refine blk_put (cs := #[.int .u32 t280, .int .u32 t281, .int .u32 x251002_1, .int .u32 x251003_1, .int .u32 x251004_1, .int .u32 x251005_1, .int .u32 x251006_1, .int .u32 x251007_1]) ?_ 2 _ rfl; (with_reducible repeat (first | refine blk_drewN ?_ _ | refine blk_drew ?_ | refine blk_alloc ?_ _)); refine blk_put (cs := #[.int .u32 t280, .int .u32 x251001_1, .int .u32 x251002_1, .int .u32 x251003_1, .int .u32 x251004_1, .int .u32 x251005_1, .int .u32 x251006_1, .int .u32 x251007_1]) ?_ 1 _ rfl; (with_reducible repeat (first | refine blk_drewN ?_ _ | refine blk_drew ?_ | refine blk_alloc ?_ _)); refine blk_put (cs := #[.int .u32 x251000_1, .int .u32 x251001_1, .int .u32 x251002_1, .int .u32 x251003_1, .int .u32 x251004_1, .int .u32 x251005_1, .int .u32 x251006_1, .int .u32 x251007_1]) ?_ 0 _ rfl; (with_reducible repeat (first | refine blk_drewN ?_ _ | refine blk_drew ?_ | refine blk_alloc ?_ _)); exact BK250.out⟩, ⟨by (with_reducible repeat (first | refine blk_drewN ?_ _ | refine blk_drew ?_ | refine blk_alloc ?_ _)); refine blk_put (cs := #[.int .u32 t296, .int .u32 t297, .int .u32 t298, .int .u32 t299, .int .u32 t300, .int .u32 t301, .int .u32 t302, .int .u32 x252007_1]) ?_ 7 _ rfl; (with_reducible repeat (first | refine blk_drewN ?_ _ | refine blk_drew ?_ | refine blk_alloc ?_ _)); refine blk_put (cs := #[.int .u32 t296, .int .u32 t297, .int .u32 t298, .int .u32 t299, .int .u32 t300, .int .u32 t301, .int .u32 x252006_1, .int .u32 x252007_1]) ?_ 6 _ rfl; (with_reducible repeat (first | refine blk_drewN ?_ _ | refine blk_drew ?_ | refine blk_alloc ?_ _)); refine blk_put (cs := #[.int .u32 t296, .int .u32 t297, .int .u32 t298, .int .u32 t299, .int .u32 t300, .int .u32 x252005_1, .int .u32 x252006_1, .int .u32 x252007_1]) ?_ 5 _ rfl; (with_reducible repeat (first | refine blk_drewN ?_ _ | refine blk_drew ?_ | refine blk_alloc ?_ _)); refine blk_put (cs := #[.int .u32 t296, .int .u32 t297, .int .u32 t298, .int .u32 t299, .int .u32 x252004_1, .int .u32 x252005_1, .int .u32 x252006_1, .int .u32 x252007_1]) ?_ 4 _ rfl; (with_reducible repeat (first | refine blk_drewN ?_ _ | refine blk_drew ?_ | refine blk_alloc ?_ _)); refine blk_put (cs := #[.int .u32 t296, .int .u32 t297, .int .u32 t298, .int .u32 x252003_1, .int .u32 x252004_1, .int .u32 x252005_1, .int .u32 x252006_1, .int .u32 x252007_1]) ?_ 3 _ rfl; (with_reducible repeat (first | refine blk_drewN ?_ _ | refine blk_drew ?_ | refine blk_alloc ?_ _)); refine blk_put (cs := #[.int .u32 t296, .int .u32 t297, .int .u32 x252002_1, .int .u32 x252003_1, .int .u32 x252004_1, .int .u32 x252005_1, .int .u32 x252006_1, .int .u32 x252007_1]) ?_ 2 _ rfl; (with_reducible repeat (first | refine blk_drewN ?_ _ | refine blk_drew ?_ | refine blk_alloc ?_ _)); refine blk_put (cs := #[.int .u32 t296, .int .u32 x252001_1, .int .u32 x252002_1, .int .u32 x252003_1, .int .u32 x252004_1, .int .u32 x252005_1, .int .u32 x252006_1, .int .u32 x252007_1]) ?_ 1 _ rfl; (with_reducible repeat (first | refine blk_drewN ?_ _ | refine blk_drew ?_ | refine blk_alloc ?_ _)); refine blk_put (cs := #[.int .u32 x252000_1, .int .u32 x252001_1, .int .u32 x252002_1, .int .u32 x252003_1, .int .u32 x252004_1, .int .u32 x252005_1, .int .u32 x252006_1, .int .u32 x252007_1]) ?_ 0 _ rfl; (repeat (first | (with_reducible first | refine blk_drewN ?_ _ | refine blk_drew ?_ | refine blk_alloc ?_ _) | refine blk_far ?_ NB251_250.out _)); (with_reducible repeat (first | refine blk_drewN ?_ _ | refine blk_drew ?_ | refine blk_alloc ?_ _)); exact BK251.out⟩, ⟨by repeat (first | (with_reducible first | exact HB.out | apply below_alloc | apply pw_below_drewN | apply below_drew1 | refine below_set ?_ GE244.out | refine below_set ?_ GE245.out | refine below_set ?_ GE249.out | refine below_set ?_ GE250.out | refine below_set ?_ GE251.out | refine below_set ?_ GE279.out) | exact HB.out)⟩⟩
        ·
         rw [if_neg c32] at H
         exact absurd H (by simp)
       ·
        rw [if_neg c31] at H
        exact absurd H (by simp)
      ·
       rw [if_neg c29] at H
       exact absurd H (by simp)
     ·
      rw [if_neg c28] at H
      have c28b0 : decide (x8_1 < (l1.length : Int)) = false := decide_eq_false c28
      clear c28
      replace H := Option.bind_eq_some_iff.mp H
      obtain ⟨⟨t252, t253⟩, A780, H⟩ := H
      replace H : ((offertoryref09_Signed.f x251000_1 x251001_1 x251002_1 x251003_1 x251004_1 x251005_1 x251006_1 x251007_1).bind fun bt254 => ((offertoryref09_Big_Wide.f bt254.1 bt254.2.1 bt254.2.2.1 bt254.2.2.2.1 bt254.2.2.2.2.1 bt254.2.2.2.2.2.1 bt254.2.2.2.2.2.2.1 bt254.2.2.2.2.2.2.2.1).bind fun bt263 => (some (x250000_1, (l1.length : Int), bt263.1, bt263.2, t252, t253, bt254.2.2.2.2.2.2.2.2)))) = some (r1, r2, r3, r4, r5, r6, r7) := H
      have A78 := Aside0.mk A780
      clear A780
      replace H := Option.bind_eq_some_iff.mp H
      obtain ⟨⟨t254, t255, t256, t257, t258, t259, t260, t261, t262⟩, A790, H⟩ := H
      replace H : ((offertoryref09_Big_Wide.f t254 t255 t256 t257 t258 t259 t260 t261).bind fun bt263 => (some (x250000_1, (l1.length : Int), bt263.1, bt263.2, t252, t253, t262))) = some (r1, r2, r3, r4, r5, r6, r7) := H
      have A79 := Aside0.mk A790
      clear A790
      replace H := Option.bind_eq_some_iff.mp H
      obtain ⟨⟨t263, t264⟩, A800, H⟩ := H
      replace H : (some (x250000_1, (l1.length : Int), t263, t264, t252, t253, t262)) = some (r1, r2, r3, r4, r5, r6, r7) := H
      have A80 := Aside0.mk A800
      clear A800
      simp only [Option.some.injEq, Prod.mk.injEq] at H
      obtain ⟨rfl, rfl, rfl, rfl, rfl, rfl, rfl⟩ := H
      have hnb81 := NB251_244.out
      have hnc81 := NB244_251.out
      have hnb82 := NB251_245.out
      have hnc82 := NB245_251.out
      have hnb83 := NB251_249.out
      have hnc83 := NB249_251.out
      have hnb84 := NB251_250.out
      have hnc84 := NB250_251.out
      have hcz85_0 : wr.cell? ⟨gb251, 0, none⟩ = some (.int .u32 x252000_1) := (blk_cell BK251.out 0).trans rfl
      have hcz85_1 : wr.cell? ⟨gb251, 1, none⟩ = some (.int .u32 x252001_1) := (blk_cell BK251.out 1).trans rfl
      have hcz85_2 : wr.cell? ⟨gb251, 2, none⟩ = some (.int .u32 x252002_1) := (blk_cell BK251.out 2).trans rfl
      have hcz85_3 : wr.cell? ⟨gb251, 3, none⟩ = some (.int .u32 x252003_1) := (blk_cell BK251.out 3).trans rfl
      have hcz85_4 : wr.cell? ⟨gb251, 4, none⟩ = some (.int .u32 x252004_1) := (blk_cell BK251.out 4).trans rfl
      have hcz85_5 : wr.cell? ⟨gb251, 5, none⟩ = some (.int .u32 x252005_1) := (blk_cell BK251.out 5).trans rfl
      have hcz85_6 : wr.cell? ⟨gb251, 6, none⟩ = some (.int .u32 x252006_1) := (blk_cell BK251.out 6).trans rfl
      have hcz85_7 : wr.cell? ⟨gb251, 7, none⟩ = some (.int .u32 x252007_1) := (blk_cell BK251.out 7).trans rfl
      have hfz85_0 := blk_frozen BK251.out 0
      have hfz85_1 := blk_frozen BK251.out 1
      have hfz85_2 := blk_frozen BK251.out 2
      have hfz85_3 := blk_frozen BK251.out 3
      have hfz85_4 := blk_frozen BK251.out 4
      have hfz85_5 := blk_frozen BK251.out 5
      have hfz85_6 := blk_frozen BK251.out 6
      have hfz85_7 := blk_frozen BK251.out 7
      go_wp2_with (first | ((with_reducible refine gate_callee (f := 20) rfl ?_); refine goesL_ (some 54) rfl rfl Try.func20 (by kernel_rfl) rfl #[.agg #[.int .u32 x252000_1, .int .u32 x252001_1, .int .u32 x252002_1, .int .u32 x252003_1, .int .u32 x252004_1, .int .u32 x252005_1, .int .u32 x252006_1, .int .u32 x252007_1]] rfl (by (try simp only [List.map_toArray, List.map_cons, List.map_nil]); first | done | rfl | (simp only [List.length_drop, List.length_take]; rfl)) ?_; (with_reducible refine (offertoryref09_Big_Wide.calls x252000_1 x252001_1 x252002_1 x252003_1 x252004_1 x252005_1 x252006_1 x252007_1 t252 t253 _ A78.out).mono ?_); rintro e w86 ⟨rfl, hb⟩; refine ⟨_, rfl, ?_⟩; have n0_ := Aside0.mk (Kd.R_below (by (with_reducible repeat (first | apply Kd.R_alloc | apply Kd.R_drewN | apply Kd.R_drew)); exact HO_250000.out) hb); have n1_ := offertoryref09_Stats.keepB BK244 hb; have n2_ := offertoryref09_Stats.keepB BK245 hb; have n3_ := offertoryref09_Stats.keepB BK249 hb; have n4_ := offertoryref09_Stats.keepB BK250 hb; have n5_ := offertoryref09_Stats.keepB BK251 hb; have n6_ := Aside0.mk (below_step (by repeat (first | (with_reducible first | exact HB.out | apply below_alloc | apply pw_below_drewN | apply below_drew1 | refine below_set ?_ GE244.out | refine below_set ?_ GE245.out | refine below_set ?_ GE249.out | refine below_set ?_ GE250.out | refine below_set ?_ GE251.out) | exact HB.out)) hb); clear HO_250000; clear BK244; clear BK245; clear BK249; clear BK250; clear BK251; clear HB; have HO_250000 := n0_; have BK244 := n1_; have BK245 := n2_; have BK249 := n3_; have BK250 := n4_; have BK251 := n5_; have HB := n6_; clear n0_ n1_ n2_ n3_ n4_ n5_ n6_; (try clear hb); (try clear hb2); (try clear hk); (try clear hi); have hnb87 := NB249_244.out; have hnc87 := NB244_249.out; have hnb88 := NB249_245.out; have hnc88 := NB245_249.out; have hnb89 := NB249_250.out; have hnc89 := NB250_249.out; have hcz90_0 : w86.cell? ⟨gb249, 0, none⟩ = some (u250000) := (blk_cell BK249.out 0).trans rfl; have hcz90_1 : w86.cell? ⟨gb249, 1, none⟩ = some (.int .i64 (l1.length : Int)) := (blk_cell BK249.out 1).trans rfl; have hcz90_2 : w86.cell? ⟨gb249, 2, none⟩ = some (.int .u64 0) := (blk_cell BK249.out 2).trans rfl; have hcz90_3 : w86.cell? ⟨gb249, 3, none⟩ = some (.int .u64 0) := (blk_cell BK249.out 3).trans rfl; have hcz90_4 : w86.cell? ⟨gb249, 4, none⟩ = some (.int .u64 0) := (blk_cell BK249.out 4).trans rfl; have hcz90_5 : w86.cell? ⟨gb249, 5, none⟩ = some (.int .u64 0) := (blk_cell BK249.out 5).trans rfl; have hcz90_6 : w86.cell? ⟨gb249, 6, none⟩ = some (.bool false) := (blk_cell BK249.out 6).trans rfl; have hfz90_0 := blk_frozen BK249.out 0; have hfz90_1 := blk_frozen BK249.out 1; have hfz90_2 := blk_frozen BK249.out 2; have hfz90_3 := blk_frozen BK249.out 3; have hfz90_4 := blk_frozen BK249.out 4; have hfz90_5 := blk_frozen BK249.out 5; have hfz90_6 := blk_frozen BK249.out 6; have hnb91 := NB250_244.out; have hnc91 := NB244_250.out; have hnb92 := NB250_245.out; have hnc92 := NB245_250.out; have hcz93_0 : w86.cell? ⟨gb250, 0, none⟩ = some (.int .u32 x251000_1) := (blk_cell BK250.out 0).trans rfl; have hcz93_1 : w86.cell? ⟨gb250, 1, none⟩ = some (.int .u32 x251001_1) := (blk_cell BK250.out 1).trans rfl; have hcz93_2 : w86.cell? ⟨gb250, 2, none⟩ = some (.int .u32 x251002_1) := (blk_cell BK250.out 2).trans rfl; have hcz93_3 : w86.cell? ⟨gb250, 3, none⟩ = some (.int .u32 x251003_1) := (blk_cell BK250.out 3).trans rfl; have hcz93_4 : w86.cell? ⟨gb250, 4, none⟩ = some (.int .u32 x251004_1) := (blk_cell BK250.out 4).trans rfl; have hcz93_5 : w86.cell? ⟨gb250, 5, none⟩ = some (.int .u32 x251005_1) := (blk_cell BK250.out 5).trans rfl; have hcz93_6 : w86.cell? ⟨gb250, 6, none⟩ = some (.int .u32 x251006_1) := (blk_cell BK250.out 6).trans rfl; have hcz93_7 : w86.cell? ⟨gb250, 7, none⟩ = some (.int .u32 x251007_1) := (blk_cell BK250.out 7).trans rfl; have hfz93_0 := blk_frozen BK250.out 0; have hfz93_1 := blk_frozen BK250.out 1; have hfz93_2 := blk_frozen BK250.out 2; have hfz93_3 := blk_frozen BK250.out 3; have hfz93_4 := blk_frozen BK250.out 4; have hfz93_5 := blk_frozen BK250.out 5; have hfz93_6 := blk_frozen BK250.out 6; have hfz93_7 := blk_frozen BK250.out 7) | ((with_reducible refine gate_callee (f := 32) rfl ?_); refine goesL_ (some 58) rfl rfl Try.func32 (by kernel_rfl) rfl #[.agg #[.int .u32 x251000_1, .int .u32 x251001_1, .int .u32 x251002_1, .int .u32 x251003_1, .int .u32 x251004_1, .int .u32 x251005_1, .int .u32 x251006_1, .int .u32 x251007_1]] rfl (by (try simp only [List.map_toArray, List.map_cons, List.map_nil]); first | done | rfl | (simp only [List.length_drop, List.length_take]; rfl)) ?_; (with_reducible refine (offertoryref09_Signed.calls x251000_1 x251001_1 x251002_1 x251003_1 x251004_1 x251005_1 x251006_1 x251007_1 t254 t255 t256 t257 t258 t259 t260 t261 t262 _ A79.out).mono ?_); rintro e w94 ⟨rfl, hb⟩; refine ⟨_, rfl, ?_⟩; have n0_ := Aside0.mk (Kd.R_below (by (with_reducible repeat (first | apply Kd.R_alloc | apply Kd.R_drewN | apply Kd.R_drew)); exact (Kd.R_mono (Kd.R_far (p := ⟨gb249, 5, none⟩) (Kd.R_far (p := ⟨gb249, 4, none⟩) (Kd.R_types HO_250000.out BK249.out (by decide)) (fun _ hk => hk.2) (.int .u64 t252)) (fun _ hk => hk.2) (.int .u64 t253)) (fun _ h_ => h_.1))) hb); have n1_ := Aside0.mk (blk_below (g := gb244) (o := .cells #[.int .i64 a0_0, .int .i64 a0_1, .int .i64 a0_2, .slice A0_3 l0_3.length c0_3] 24 (0, 0)) (by (repeat (first | (with_reducible first | refine blk_drewN ?_ _ | refine blk_drew ?_ | refine blk_alloc ?_ _) | refine blk_far ?_ NB244_249.out _)); (with_reducible repeat (first | refine blk_drewN ?_ _ | refine blk_drew ?_ | refine blk_alloc ?_ _)); exact BK244.out) hb); have n2_ := Aside0.mk (blk_below (g := gb245) (o := .cells #[.slice none 0 0, .int .i64 0, .int .u64 0, .int .u64 0, .int .u64 0, .int .u64 0, .bool false] 29 (0, 0)) (by (repeat (first | (with_reducible first | refine blk_drewN ?_ _ | refine blk_drew ?_ | refine blk_alloc ?_ _) | refine blk_far ?_ NB245_249.out _)); (with_reducible repeat (first | refine blk_drewN ?_ _ | refine blk_drew ?_ | refine blk_alloc ?_ _)); exact BK245.out) hb); have n3_ := Aside0.mk (blk_below (g := gb249) (o := .cells #[u250000, .int .i64 (l1.length : Int), .int .u64 0, .int .u64 0, .int .u64 t252, .int .u64 t253, .bool false] 29 (0, 0)) (by (with_reducible repeat (first | refine blk_drewN ?_ _ | refine blk_drew ?_ | refine blk_alloc ?_ _)); refine blk_put (cs := #[u250000, .int .i64 (l1.length : Int), .int .u64 0, .int .u64 0, .int .u64 t252, .int .u64 0, .bool false]) ?_ 5 _ rfl; (with_reducible repeat (first | refine blk_drewN ?_ _ | refine blk_drew ?_ | refine blk_alloc ?_ _)); refine blk_put (cs := #[u250000, .int .i64 (l1.length : Int), .int .u64 0, .int .u64 0, .int .u64 0, .int .u64 0, .bool false]) ?_ 4 _ rfl; (with_reducible repeat (first | refine blk_drewN ?_ _ | refine blk_drew ?_ | refine blk_alloc ?_ _)); exact BK249.out) hb); have n4_ := Aside0.mk (blk_below (g := gb250) (o := .cells #[.int .u32 x251000_1, .int .u32 x251001_1, .int .u32 x251002_1, .int .u32 x251003_1, .int .u32 x251004_1, .int .u32 x251005_1, .int .u32 x251006_1, .int .u32 x251007_1] 45 (0, 0)) (by (repeat (first | (with_reducible first | refine blk_drewN ?_ _ | refine blk_drew ?_ | refine blk_alloc ?_ _) | refine blk_far ?_ NB250_249.out _)); (with_reducible repeat (first | refine blk_drewN ?_ _ | refine blk_drew ?_ | refine blk_alloc ?_ _)); exact BK250.out) hb); have n5_ := Aside0.mk (blk_below (g := gb251) (o := .cells #[.int .u32 x252000_1, .int .u32 x252001_1, .int .u32 x252002_1, .int .u32 x252003_1, .int .u32 x252004_1, .int .u32 x252005_1, .int .u32 x252006_1, .int .u32 x252007_1] 45 (0, 0)) (by (repeat (first | (with_reducible first | refine blk_drewN ?_ _ | refine blk_drew ?_ | refine blk_alloc ?_ _) | refine blk_far ?_ NB251_249.out _)); (with_reducible repeat (first | refine blk_drewN ?_ _ | refine blk_drew ?_ | refine blk_alloc ?_ _)); exact BK251.out) hb); have n6_ := Aside0.mk (below_step (by repeat (first | (with_reducible first | exact HB.out | apply below_alloc | apply pw_below_drewN | apply below_drew1 | refine below_set ?_ GE244.out | refine below_set ?_ GE245.out | refine below_set ?_ GE249.out | refine below_set ?_ GE250.out | refine below_set ?_ GE251.out) | exact HB.out)) hb); clear HO_250000; clear BK244; clear BK245; clear BK249; clear BK250; clear BK251; clear HB; have HO_250000 := n0_; have BK244 := n1_; have BK245 := n2_; have BK249 := n3_; have BK250 := n4_; have BK251 := n5_; have HB := n6_; clear n0_ n1_ n2_ n3_ n4_ n5_ n6_; (try clear hb); (try clear hb2); (try clear hk); (try clear hi); have hcz95_0 : w94.cell? ⟨gb250, 0, none⟩ = some (.int .u32 x251000_1) := (blk_cell BK250.out 0).trans rfl; have hcz95_1 : w94.cell? ⟨gb250, 1, none⟩ = some (.int .u32 x251001_1) := (blk_cell BK250.out 1).trans rfl; have hcz95_2 : w94.cell? ⟨gb250, 2, none⟩ = some (.int .u32 x251002_1) := (blk_cell BK250.out 2).trans rfl; have hcz95_3 : w94.cell? ⟨gb250, 3, none⟩ = some (.int .u32 x251003_1) := (blk_cell BK250.out 3).trans rfl; have hcz95_4 : w94.cell? ⟨gb250, 4, none⟩ = some (.int .u32 x251004_1) := (blk_cell BK250.out 4).trans rfl; have hcz95_5 : w94.cell? ⟨gb250, 5, none⟩ = some (.int .u32 x251005_1) := (blk_cell BK250.out 5).trans rfl; have hcz95_6 : w94.cell? ⟨gb250, 6, none⟩ = some (.int .u32 x251006_1) := (blk_cell BK250.out 6).trans rfl; have hcz95_7 : w94.cell? ⟨gb250, 7, none⟩ = some (.int .u32 x251007_1) := (blk_cell BK250.out 7).trans rfl; have hfz95_0 := blk_frozen BK250.out 0; have hfz95_1 := blk_frozen BK250.out 1; have hfz95_2 := blk_frozen BK250.out 2; have hfz95_3 := blk_frozen BK250.out 3; have hfz95_4 := blk_frozen BK250.out 4; have hfz95_5 := blk_frozen BK250.out 5; have hfz95_6 := blk_frozen BK250.out 6; have hfz95_7 := blk_frozen BK250.out 7; have hcz96_0 : w94.cell? ⟨gb249, 0, none⟩ = some (u250000) := (blk_cell BK249.out 0).trans rfl; have hcz96_1 : w94.cell? ⟨gb249, 1, none⟩ = some (.int .i64 (l1.length : Int)) := (blk_cell BK249.out 1).trans rfl; have hcz96_2 : w94.cell? ⟨gb249, 2, none⟩ = some (.int .u64 0) := (blk_cell BK249.out 2).trans rfl; have hcz96_3 : w94.cell? ⟨gb249, 3, none⟩ = some (.int .u64 0) := (blk_cell BK249.out 3).trans rfl; have hcz96_4 : w94.cell? ⟨gb249, 4, none⟩ = some (.int .u64 t252) := (blk_cell BK249.out 4).trans rfl; have hcz96_5 : w94.cell? ⟨gb249, 5, none⟩ = some (.int .u64 t253) := (blk_cell BK249.out 5).trans rfl; have hcz96_6 : w94.cell? ⟨gb249, 6, none⟩ = some (.bool false) := (blk_cell BK249.out 6).trans rfl; have hfz96_0 := blk_frozen BK249.out 0; have hfz96_1 := blk_frozen BK249.out 1; have hfz96_2 := blk_frozen BK249.out 2; have hfz96_3 := blk_frozen BK249.out 3; have hfz96_4 := blk_frozen BK249.out 4; have hfz96_5 := blk_frozen BK249.out 5; have hfz96_6 := blk_frozen BK249.out 6) | ((with_reducible refine gate_callee (f := 20) rfl ?_); refine goesL_ (some 63) rfl rfl Try.func20 (by kernel_rfl) rfl #[.agg #[.int .u32 t254, .int .u32 t255, .int .u32 t256, .int .u32 t257, .int .u32 t258, .int .u32 t259, .int .u32 t260, .int .u32 t261]] rfl (by (try simp only [List.map_toArray, List.map_cons, List.map_nil]); first | done | rfl | (simp only [List.length_drop, List.length_take]; rfl)) ?_; (with_reducible refine (offertoryref09_Big_Wide.calls t254 t255 t256 t257 t258 t259 t260 t261 t263 t264 _ A80.out).mono ?_); rintro e w97 ⟨rfl, hb⟩; refine ⟨_, rfl, ?_⟩; have n0_ := Aside0.mk (Kd.R_below (by (with_reducible repeat (first | apply Kd.R_alloc | apply Kd.R_drewN | apply Kd.R_drew)); exact (Kd.R_mono (Kd.R_mono (Kd.R_far (p := ⟨gb249, 6, none⟩) (Kd.R_far (p := ⟨gb250, 7, none⟩) (Kd.R_far (p := ⟨gb250, 6, none⟩) (Kd.R_far (p := ⟨gb250, 5, none⟩) (Kd.R_far (p := ⟨gb250, 4, none⟩) (Kd.R_far (p := ⟨gb250, 3, none⟩) (Kd.R_far (p := ⟨gb250, 2, none⟩) (Kd.R_far (p := ⟨gb250, 1, none⟩) (Kd.R_far (p := ⟨gb250, 0, none⟩) (Kd.R_types (Kd.R_types HO_250000.out BK250.out (by decide)) BK249.out (by decide)) (fun _ hk => hk.1.2) (.int .u32 t254)) (fun _ hk => hk.1.2) (.int .u32 t255)) (fun _ hk => hk.1.2) (.int .u32 t256)) (fun _ hk => hk.1.2) (.int .u32 t257)) (fun _ hk => hk.1.2) (.int .u32 t258)) (fun _ hk => hk.1.2) (.int .u32 t259)) (fun _ hk => hk.1.2) (.int .u32 t260)) (fun _ hk => hk.1.2) (.int .u32 t261)) (fun _ hk => hk.2) (.bool t262)) (fun _ h_ => h_.1)) (fun _ h_ => h_.1))) hb); have n1_ := Aside0.mk (blk_below (g := gb244) (o := .cells #[.int .i64 a0_0, .int .i64 a0_1, .int .i64 a0_2, .slice A0_3 l0_3.length c0_3] 24 (0, 0)) (by (with_reducible repeat (first | refine blk_drewN ?_ _ | refine blk_drew ?_ | refine blk_alloc ?_ _)); refine blk_far ?_ NB244_249.out _; (repeat (first | (with_reducible first | refine blk_drewN ?_ _ | refine blk_drew ?_ | refine blk_alloc ?_ _) | refine blk_far ?_ NB244_250.out _)); (with_reducible repeat (first | refine blk_drewN ?_ _ | refine blk_drew ?_ | refine blk_alloc ?_ _)); exact BK244.out) hb); have n2_ := Aside0.mk (blk_below (g := gb245) (o := .cells #[.slice none 0 0, .int .i64 0, .int .u64 0, .int .u64 0, .int .u64 0, .int .u64 0, .bool false] 29 (0, 0)) (by (with_reducible repeat (first | refine blk_drewN ?_ _ | refine blk_drew ?_ | refine blk_alloc ?_ _)); refine blk_far ?_ NB245_249.out _; (repeat (first | (with_reducible first | refine blk_drewN ?_ _ | refine blk_drew ?_ | refine blk_alloc ?_ _) | refine blk_far ?_ NB245_250.out _)); (with_reducible repeat (first | refine blk_drewN ?_ _ | refine blk_drew ?_ | refine blk_alloc ?_ _)); exact BK245.out) hb); have n3_ := Aside0.mk (blk_below (g := gb249) (o := .cells #[u250000, .int .i64 (l1.length : Int), .int .u64 0, .int .u64 0, .int .u64 t252, .int .u64 t253, .bool t262] 29 (0, 0)) (by (with_reducible repeat (first | refine blk_drewN ?_ _ | refine blk_drew ?_ | refine blk_alloc ?_ _)); refine blk_put (cs := #[u250000, .int .i64 (l1.length : Int), .int .u64 0, .int .u64 0, .int .u64 t252, .int .u64 t253, .bool false]) ?_ 6 _ rfl; (repeat (first | (with_reducible first | refine blk_drewN ?_ _ | refine blk_drew ?_ | refine blk_alloc ?_ _) | refine blk_far ?_ NB249_250.out _)); (with_reducible repeat (first | refine blk_drewN ?_ _ | refine blk_drew ?_ | refine blk_alloc ?_ _)); exact BK249.out) hb); have n4_ := Aside0.mk (blk_below (g := gb250) (o := .cells #[.int .u32 t254, .int .u32 t255, .int .u32 t256, .int .u32 t257, .int .u32 t258, .int .u32 t259, .int .u32 t260, .int .u32 t261] 45 (0, 0)) (by (with_reducible repeat (first | refine blk_drewN ?_ _ | refine blk_drew ?_ | refine blk_alloc ?_ _)); refine blk_far ?_ NB250_249.out _; (with_reducible repeat (first | refine blk_drewN ?_ _ | refine blk_drew ?_ | refine blk_alloc ?_ _)); refine blk_put (cs := #[.int .u32 t254, .int .u32 t255, .int .u32 t256, .int .u32 t257, .int .u32 t258, .int .u32 t259, .int .u32 t260, .int .u32 x251007_1]) ?_ 7 _ rfl; (with_reducible repeat (first | refine blk_drewN ?_ _ | refine blk_drew ?_ | refine blk_alloc ?_ _)); refine blk_put (cs := #[.int .u32 t254, .int .u32 t255, .int .u32 t256, .int .u32 t257, .int .u32 t258, .int .u32 t259, .int .u32 x251006_1, .int .u32 x251007_1]) ?_ 6 _ rfl; (with_reducible repeat (first | refine blk_drewN ?_ _ | refine blk_drew ?_ | refine blk_alloc ?_ _)); refine blk_put (cs := #[.int .u32 t254, .int .u32 t255, .int .u32 t256, .int .u32 t257, .int .u32 t258, .int .u32 x251005_1, .int .u32 x251006_1, .int .u32 x251007_1]) ?_ 5 _ rfl; (with_reducible repeat (first | refine blk_drewN ?_ _ | refine blk_drew ?_ | refine blk_alloc ?_ _)); refine blk_put (cs := #[.int .u32 t254, .int .u32 t255, .int .u32 t256, .int .u32 t257, .int .u32 x251004_1, .int .u32 x251005_1, .int .u32 x251006_1, .int .u32 x251007_1]) ?_ 4 _ rfl; (with_reducible repeat (first | refine blk_drewN ?_ _ | refine blk_drew ?_ | refine blk_alloc ?_ _)); refine blk_put (cs := #[.int .u32 t254, .int .u32 t255, .int .u32 t256, .int .u32 x251003_1, .int .u32 x251004_1, .int .u32 x251005_1, .int .u32 x251006_1, .int .u32 x251007_1]) ?_ 3 _ rfl; (with_reducible repeat (first | refine blk_drewN ?_ _ | refine blk_drew ?_ | refine blk_alloc ?_ _)); refine blk_put (cs := #[.int .u32 t254, .int .u32 t255, .int .u32 x251002_1, .int .u32 x251003_1, .int .u32 x251004_1, .int .u32 x251005_1, .int .u32 x251006_1, .int .u32 x251007_1]) ?_ 2 _ rfl; (with_reducible repeat (first | refine blk_drewN ?_ _ | refine blk_drew ?_ | refine blk_alloc ?_ _)); refine blk_put (cs := #[.int .u32 t254, .int .u32 x251001_1, .int .u32 x251002_1, .int .u32 x251003_1, .int .u32 x251004_1, .int .u32 x251005_1, .int .u32 x251006_1, .int .u32 x251007_1]) ?_ 1 _ rfl; (with_reducible repeat (first | refine blk_drewN ?_ _ | refine blk_drew ?_ | refine blk_alloc ?_ _)); refine blk_put (cs := #[.int .u32 x251000_1, .int .u32 x251001_1, .int .u32 x251002_1, .int .u32 x251003_1, .int .u32 x251004_1, .int .u32 x251005_1, .int .u32 x251006_1, .int .u32 x251007_1]) ?_ 0 _ rfl; (with_reducible repeat (first | refine blk_drewN ?_ _ | refine blk_drew ?_ | refine blk_alloc ?_ _)); exact BK250.out) hb); have n5_ := Aside0.mk (blk_below (g := gb251) (o := .cells #[.int .u32 x252000_1, .int .u32 x252001_1, .int .u32 x252002_1, .int .u32 x252003_1, .int .u32 x252004_1, .int .u32 x252005_1, .int .u32 x252006_1, .int .u32 x252007_1] 45 (0, 0)) (by (with_reducible repeat (first | refine blk_drewN ?_ _ | refine blk_drew ?_ | refine blk_alloc ?_ _)); refine blk_far ?_ NB251_249.out _; (repeat (first | (with_reducible first | refine blk_drewN ?_ _ | refine blk_drew ?_ | refine blk_alloc ?_ _) | refine blk_far ?_ NB251_250.out _)); (with_reducible repeat (first | refine blk_drewN ?_ _ | refine blk_drew ?_ | refine blk_alloc ?_ _)); exact BK251.out) hb); have n6_ := Aside0.mk (below_step (by repeat (first | (with_reducible first | exact HB.out | apply below_alloc | apply pw_below_drewN | apply below_drew1 | refine below_set ?_ GE244.out | refine below_set ?_ GE245.out | refine below_set ?_ GE249.out | refine below_set ?_ GE250.out | refine below_set ?_ GE251.out) | exact HB.out)) hb); clear HO_250000; clear BK244; clear BK245; clear BK249; clear BK250; clear BK251; clear HB; have HO_250000 := n0_; have BK244 := n1_; have BK245 := n2_; have BK249 := n3_; have BK250 := n4_; have BK251 := n5_; have HB := n6_; clear n0_ n1_ n2_ n3_ n4_ n5_ n6_; (try clear hb); (try clear hb2); (try clear hk); (try clear hi); have hcz98_0 : w97.cell? ⟨gb249, 0, none⟩ = some (u250000) := (blk_cell BK249.out 0).trans rfl; have hcz98_1 : w97.cell? ⟨gb249, 1, none⟩ = some (.int .i64 (l1.length : Int)) := (blk_cell BK249.out 1).trans rfl; have hcz98_2 : w97.cell? ⟨gb249, 2, none⟩ = some (.int .u64 0) := (blk_cell BK249.out 2).trans rfl; have hcz98_3 : w97.cell? ⟨gb249, 3, none⟩ = some (.int .u64 0) := (blk_cell BK249.out 3).trans rfl; have hcz98_4 : w97.cell? ⟨gb249, 4, none⟩ = some (.int .u64 t252) := (blk_cell BK249.out 4).trans rfl; have hcz98_5 : w97.cell? ⟨gb249, 5, none⟩ = some (.int .u64 t253) := (blk_cell BK249.out 5).trans rfl; have hcz98_6 : w97.cell? ⟨gb249, 6, none⟩ = some (.bool t262) := (blk_cell BK249.out 6).trans rfl; have hfz98_0 := blk_frozen BK249.out 0; have hfz98_1 := blk_frozen BK249.out 1; have hfz98_2 := blk_frozen BK249.out 2; have hfz98_3 := blk_frozen BK249.out 3; have hfz98_4 := blk_frozen BK249.out 4; have hfz98_5 := blk_frozen BK249.out 5; have hfz98_6 := blk_frozen BK249.out 6; obtain ⟨Ao99, co99, eo99⟩ := Kd.R_slice HO_250000.out; subst eo99; have hnb100 := NB245_244.out; have hnc100 := NB244_245.out; have hcz101_0 : w97.cell? ⟨gb245, 0, none⟩ = some (.slice none 0 0) := (blk_cell BK245.out 0).trans rfl; have hcz101_1 : w97.cell? ⟨gb245, 1, none⟩ = some (.int .i64 0) := (blk_cell BK245.out 1).trans rfl; have hcz101_2 : w97.cell? ⟨gb245, 2, none⟩ = some (.int .u64 0) := (blk_cell BK245.out 2).trans rfl; have hcz101_3 : w97.cell? ⟨gb245, 3, none⟩ = some (.int .u64 0) := (blk_cell BK245.out 3).trans rfl; have hcz101_4 : w97.cell? ⟨gb245, 4, none⟩ = some (.int .u64 0) := (blk_cell BK245.out 4).trans rfl; have hcz101_5 : w97.cell? ⟨gb245, 5, none⟩ = some (.int .u64 0) := (blk_cell BK245.out 5).trans rfl; have hcz101_6 : w97.cell? ⟨gb245, 6, none⟩ = some (.bool false) := (blk_cell BK245.out 6).trans rfl; have hfz101_0 := blk_frozen BK245.out 0; have hfz101_1 := blk_frozen BK245.out 1; have hfz101_2 := blk_frozen BK245.out 2; have hfz101_3 := blk_frozen BK245.out 3; have hfz101_4 := blk_frozen BK245.out 4; have hfz101_5 := blk_frozen BK245.out 5; have hfz101_6 := blk_frozen BK245.out 6))
      refine bodyPost_ret (results_cell_row rfl _ _ gb245 29 #[.slice Ao99 x250000_1.length co99, .int .i64 (l1.length : Int), .int .u64 t263, .int .u64 t264, .int .u64 t252, .int .u64 t253, .bool t262] (0, 0) _ rfl (by (with_reducible repeat (first | refine blk_drewN ?_ _ | refine blk_drew ?_ | refine blk_alloc ?_ _)); refine blk_put (cs := #[.slice Ao99 x250000_1.length co99, .int .i64 (l1.length : Int), .int .u64 t263, .int .u64 t264, .int .u64 t252, .int .u64 t253, .bool false]) ?_ 6 _ rfl; (with_reducible repeat (first | refine blk_drewN ?_ _ | refine blk_drew ?_ | refine blk_alloc ?_ _)); refine blk_put (cs := #[.slice Ao99 x250000_1.length co99, .int .i64 (l1.length : Int), .int .u64 t263, .int .u64 t264, .int .u64 t252, .int .u64 0, .bool false]) ?_ 5 _ rfl; (with_reducible repeat (first | refine blk_drewN ?_ _ | refine blk_drew ?_ | refine blk_alloc ?_ _)); refine blk_put (cs := #[.slice Ao99 x250000_1.length co99, .int .i64 (l1.length : Int), .int .u64 t263, .int .u64 t264, .int .u64 0, .int .u64 0, .bool false]) ?_ 4 _ rfl; (with_reducible repeat (first | refine blk_drewN ?_ _ | refine blk_drew ?_ | refine blk_alloc ?_ _)); refine blk_put (cs := #[.slice Ao99 x250000_1.length co99, .int .i64 (l1.length : Int), .int .u64 t263, .int .u64 0, .int .u64 0, .int .u64 0, .bool false]) ?_ 3 _ rfl; (with_reducible repeat (first | refine blk_drewN ?_ _ | refine blk_drew ?_ | refine blk_alloc ?_ _)); refine blk_put (cs := #[.slice Ao99 x250000_1.length co99, .int .i64 (l1.length : Int), .int .u64 0, .int .u64 0, .int .u64 0, .int .u64 0, .bool false]) ?_ 2 _ rfl; (with_reducible repeat (first | refine blk_drewN ?_ _ | refine blk_drew ?_ | refine blk_alloc ?_ _)); refine blk_put (cs := #[.slice Ao99 x250000_1.length co99, .int .i64 0, .int .u64 0, .int .u64 0, .int .u64 0, .int .u64 0, .bool false]) ?_ 1 _ rfl; (with_reducible repeat (first | refine blk_drewN ?_ _ | refine blk_drew ?_ | refine blk_alloc ?_ _)); refine blk_put (cs := #[.slice none 0 0, .int .i64 0, .int .u64 0, .int .u64 0, .int .u64 0, .int .u64 0, .bool false]) ?_ 0 _ rfl; (repeat (first | (with_reducible first | refine blk_drewN ?_ _ | refine blk_drew ?_ | refine blk_alloc ?_ _) | refine blk_far ?_ NB245_249.out _)); (with_reducible repeat (first | refine blk_drewN ?_ _ | refine blk_drew ?_ | refine blk_alloc ?_ _)); exact BK245.out) Try.underlying29 rfl (by kernel_rfl)) rfl ?_
      exact ⟨_, by first | rfl | (simp [errW_none, errW_some] <;> rfl) | (simp only [← hji3]; first | rfl | (simp [errW_none, errW_some] <;> rfl)) | (simp [*, errW_none, errW_some] <;> rfl), by (with_reducible repeat (first | apply Kd.R_alloc | apply Kd.R_drewN | apply Kd.R_drew)); exact Kd.R_mono (Kd.R_far (p := ⟨gb245, 6, none⟩) (Kd.R_far (p := ⟨gb245, 5, none⟩) (Kd.R_far (p := ⟨gb245, 4, none⟩) (Kd.R_far (p := ⟨gb245, 3, none⟩) (Kd.R_far (p := ⟨gb245, 2, none⟩) (Kd.R_far (p := ⟨gb245, 1, none⟩) (Kd.R_far (p := ⟨gb245, 0, none⟩) (Kd.R_far (p := ⟨gb249, 3, none⟩) (Kd.R_far (p := ⟨gb249, 2, none⟩) (Kd.R_types (Kd.R_types HO_250000.out BK249.out (by decide)) BK245.out (by decide)) (fun _ hk => hk.1.2) (.int .u64 t263)) (fun _ hk => hk.1.2) (.int .u64 t264)) (fun _ hk => hk.2) (.slice Ao99 x250000_1.length co99)) (fun _ hk => hk.2) (.int .i64 (l1.length : Int))) (fun _ hk => hk.2) (.int .u64 t263)) (fun _ hk => hk.2) (.int .u64 t264)) (fun _ hk => hk.2) (.int .u64 t252)) (fun _ hk => hk.2) (.int .u64 t253)) (fun _ hk => hk.2) (.bool t262)) (fun _ hk => trivial), by repeat (first | (with_reducible first | exact HB.out | apply below_alloc | apply pw_below_drewN | apply below_drew1 | refine below_set ?_ GE244.out | refine below_set ?_ GE245.out | refine below_set ?_ GE249.out | refine below_set ?_ GE250.out | refine below_set ?_ GE251.out) | exact HB.out)⟩
  ·
   rw [if_neg c5] at H
   exact absurd H (by simp)
 ·
  rw [if_neg c4] at H
  exact absurd H (by simp)

end Go.Proofs.Ytdpekjffjobabaa.PAll
