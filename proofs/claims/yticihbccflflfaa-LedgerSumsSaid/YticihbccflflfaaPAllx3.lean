/- The Go functions that the laws reach, as Lean functions, and that each call comes to what its function says. Written by a program of this session (a turned copy of the kit's print). No condition beyond those that each theorem states. -/
import Derived.Test.YticihbccflflfaaPAllx0
import Derived.Test.YticihbccflflfaaPAllx2
namespace Go.Proofs.Yticihbccflflfaa.PAll
open Go.RowKit Go.Proofs.YticihbccflflfaaW.PrintWords Go.Proofs.YticihbccflflfaaW.PrintLast Go.Proofs.YticihbccflflfaaW.PrintMore
attribute [local go_sem] max2_int min2_int max_two min_two max_three min_three max_four min_four   -- for this text's walks alone
set_option linter.unusedVariables false
set_option linter.unusedSimpArgs false

theorem ledger_way_both_f15.keepB {W0 W w1 : World} {g : Nat} {o : Obj} (h : Aside0 (W0.heap[g]? = some o)) (hb : Below W.heap.size W w1) (hs : W0.heap[g]? = some o → W.heap[g]? = some o := by intro h_; (with_reducible repeat (first | refine blk_drewN ?_ _ | refine blk_drew ?_ | refine blk_alloc ?_ _)); exact h_) : Aside0 (w1.heap[g]? = some o) := ⟨(hb.block g (blk_lt (hs h.out))).trans (hs h.out)⟩
theorem ledger_way_both_f15.neL {W0 W : World} {g gb : Nat} {o : Obj} (h : Aside0 (W0.heap[g]? = some o)) (hg : gb = W.heap.size) (hs : W0.heap[g]? = some o → W.heap[g]? = some o := by intro h_; (with_reducible repeat (first | refine blk_drewN ?_ _ | refine blk_drew ?_ | refine blk_alloc ?_ _)); exact h_) : Aside0 (g ≠ gb) := ⟨by rw [hg]; exact Nat.ne_of_lt (blk_lt (hs h.out))⟩
theorem ledger_way_both_f15.neG {W0 W : World} {g gb : Nat} {o : Obj} (h : Aside0 (W0.heap[g]? = some o)) (hg : gb = W.heap.size) (hs : W0.heap[g]? = some o → W.heap[g]? = some o := by intro h_; (with_reducible repeat (first | refine blk_drewN ?_ _ | refine blk_drew ?_ | refine blk_alloc ?_ _)); exact h_) : Aside0 (gb ≠ g) := ⟨by rw [hg]; exact Nat.ne_of_gt (blk_lt (hs h.out))⟩
/-! ### ledger_way_both_f15: function 17 -/
mutual
def ledger_way_both_f15.j0 : Nat → Bool → List Int → Int → Int → Int → Int → Int → Bool → List Int → Int → Int → Int → Int → Int → Bool → Option (List Int × Int × Int × Int × Int × Int × Bool × Int)
 | 0, _, _, _, _, _, _, _, _, _, _, _, _, _, _, _ => none
 | k + 1, x27, x118000, x118001, x118002, x118003, x118004, x118005, x118006, x119000, x119001, x119002, x119003, x119004, x119005, x119006 => if x27 = true then (some (([] : List Int), 0, 0, 0, 0, 0, false, 4)) else ((ledger_plus.f x118001 x119001).bind fun t122 => ((ledger_entry_sum.f x118000 x118001 x118002 x118003 x118004 x118005 x118006).bind fun bt123 => ((ledger_entry_sum.f x119000 x119001 x119002 x119003 x119004 x119005 x119006).bind fun bt125 => ((wide_Add.f bt123.1 bt123.2 bt125.1 bt125.2).bind fun bt127 => ((wide_Add.f x118004 x118005 x119004 x119005).bind fun bt129 => (ledger_way_both_f15.l0 k (x118000.length : Int) 0 x118000 x118001 x118002 x118003 x118004 x118005 x118006 x119000 x119001 x119002 x119003 x119004 x119005 x119006 ([] : List Int) t122 bt127.1 bt127.2 bt129.1 bt129.2 false))))))
def ledger_way_both_f15.l0 : Nat → Int → Int → List Int → Int → Int → Int → Int → Int → Bool → List Int → Int → Int → Int → Int → Int → Bool → List Int → Int → Int → Int → Int → Int → Bool → Option (List Int × Int × Int × Int × Int × Int × Bool × Int)
 | 0, _, _, _, _, _, _, _, _, _, _, _, _, _, _, _, _, _, _, _, _, _, _, _ => none
 | k + 1, x59, x60, x118000, x118001, x118002, x118003, x118004, x118005, x118006, x119000, x119001, x119002, x119003, x119004, x119005, x119006, x132000, x132001, x132002, x132003, x132004, x132005, x132006 => if x60 < x59 then (if 0 ≤ x60 then (if x60 < (x118000.length : Int) then (if x60 < (x119000.length : Int) then ((ledger_plus.f (rd x118000 x60) (rd x119000 x60)).bind fun t134 => (if x132000.length < 17592186044416 then (ledger_way_both_f15.l0 k x59 (wrap64 (x60 + 1)) x118000 x118001 x118002 x118003 x118004 x118005 x118006 x119000 x119001 x119002 x119003 x119004 x119005 x119006 (x132000 ++ [t134]) x132001 x132002 x132003 x132004 x132005 x132006) else (none))) else (none)) else (none)) else (none)) else ((ledger_entry_right.f k x132000 x132001 x132002 x132003 x132004 x132005 x132006).bind fun t138 => (if t138 = true then (if (x132002 / 9223372036854775808) = 1 then ((wide_Neg.f x132002 x132003).bind fun bt139 => (some (x132000, x132001, bt139.1, bt139.2, x132004, x132005, ((x132002 / 9223372036854775808) == 1), 0))) else (some (x132000, x132001, x132002, x132003, x132004, x132005, ((x132002 / 9223372036854775808) == 1), 0))) else (some (([] : List Int), 0, 0, 0, 0, 0, false, 4))))
end
def ledger_way_both_f15.f (k : Nat) (a0_0 : Int) (a0_1 : Int) (l1_0 : List Int) (a1_1 : Int) (a1_2 : Int) (a1_3 : Int) (a1_4 : Int) (a1_5 : Int) (a1_6 : Bool) (l2_0 : List Int) (a2_1 : Int) (a2_2 : Int) (a2_3 : Int) (a2_4 : Int) (a2_5 : Int) (a2_6 : Bool) : Option (List Int × Int × Int × Int × Int × Int × Bool × Int) := if (l1_0.length : Int) = (l2_0.length : Int) then ((ledger_entry_right.f k l1_0 a1_1 a1_2 a1_3 a1_4 a1_5 a1_6).bind fun t120 => (if t120 = true then ((ledger_entry_right.f k l2_0 a2_1 a2_2 a2_3 a2_4 a2_5 a2_6).bind fun t121 => (ledger_way_both_f15.j0 k (!t121) l1_0 a1_1 a1_2 a1_3 a1_4 a1_5 a1_6 l2_0 a2_1 a2_2 a2_3 a2_4 a2_5 a2_6)) else (ledger_way_both_f15.j0 k true l1_0 a1_1 a1_2 a1_3 a1_4 a1_5 a1_6 l2_0 a2_1 a2_2 a2_3 a2_4 a2_5 a2_6))) else (some (([] : List Int), 0, 0, 0, 0, 0, false, 1))
theorem ledger_way_both_f15.mono_l : ∀ k, (∀ y0 y1 y2 y3 y4 y5 y6 y7 y8 y9 y10 y11 y12 y13 y14, LeO (ledger_way_both_f15.j0 k y0 y1 y2 y3 y4 y5 y6 y7 y8 y9 y10 y11 y12 y13 y14) (ledger_way_both_f15.j0 (k + 1) y0 y1 y2 y3 y4 y5 y6 y7 y8 y9 y10 y11 y12 y13 y14)) ∧ (∀ y0 y1 y2 y3 y4 y5 y6 y7 y8 y9 y10 y11 y12 y13 y14 y15 y16 y17 y18 y19 y20 y21 y22, LeO (ledger_way_both_f15.l0 k y0 y1 y2 y3 y4 y5 y6 y7 y8 y9 y10 y11 y12 y13 y14 y15 y16 y17 y18 y19 y20 y21 y22) (ledger_way_both_f15.l0 (k + 1) y0 y1 y2 y3 y4 y5 y6 y7 y8 y9 y10 y11 y12 y13 y14 y15 y16 y17 y18 y19 y20 y21 y22))
 | 0 => ⟨fun _ _ _ _ _ _ _ _ _ _ _ _ _ _ _ r h => by simp [ledger_way_both_f15.j0] at h, fun _ _ _ _ _ _ _ _ _ _ _ _ _ _ _ _ _ _ _ _ _ _ _ r h => by simp [ledger_way_both_f15.l0] at h⟩
 | k + 1 => by
  obtain ⟨ih0, ih1⟩ := ledger_way_both_f15.mono_l k
  refine ⟨?_, ?_⟩
  ·
   intro y0 y1 y2 y3 y4 y5 y6 y7 y8 y9 y10 y11 y12 y13 y14
   unfold ledger_way_both_f15.j0
   repeat' first
   | (with_reducible exact ih0 _ _ _ _ _ _ _ _ _ _ _ _ _ _ _)
   | (with_reducible exact ih1 _ _ _ _ _ _ _ _ _ _ _ _ _ _ _ _ _ _ _ _ _ _ _)
   | (with_reducible exact ledger_entry_right.mono _ _ _ _ _ _ _ _)
   | (with_reducible exact LeO.refl _)
   | (with_reducible exact LeO.none _)
   | (with_reducible refine LeO.ite ?_ ?_)
   | (with_reducible refine LeO.bind ?_ (fun _ => ?_))
   | exact ih0 _ _ _ _ _ _ _ _ _ _ _ _ _ _ _
   | exact ih1 _ _ _ _ _ _ _ _ _ _ _ _ _ _ _ _ _ _ _ _ _ _ _
   | exact ledger_entry_right.mono _ _ _ _ _ _ _ _
   | exact LeO.none _
   | refine LeO.ite ?_ ?_
   | refine LeO.bind ?_ (fun _ => ?_)
  ·
   intro y0 y1 y2 y3 y4 y5 y6 y7 y8 y9 y10 y11 y12 y13 y14 y15 y16 y17 y18 y19 y20 y21 y22
   unfold ledger_way_both_f15.l0
   repeat' first
   | (with_reducible exact ih0 _ _ _ _ _ _ _ _ _ _ _ _ _ _ _)
   | (with_reducible exact ih1 _ _ _ _ _ _ _ _ _ _ _ _ _ _ _ _ _ _ _ _ _ _ _)
   | (with_reducible exact ledger_entry_right.mono _ _ _ _ _ _ _ _)
   | (with_reducible exact LeO.refl _)
   | (with_reducible exact LeO.none _)
   | (with_reducible refine LeO.ite ?_ ?_)
   | (with_reducible refine LeO.bind ?_ (fun _ => ?_))
   | exact ih0 _ _ _ _ _ _ _ _ _ _ _ _ _ _ _
   | exact ih1 _ _ _ _ _ _ _ _ _ _ _ _ _ _ _ _ _ _ _ _ _ _ _
   | exact ledger_entry_right.mono _ _ _ _ _ _ _ _
   | exact LeO.none _
   | refine LeO.ite ?_ ?_
   | refine LeO.bind ?_ (fun _ => ?_)
theorem ledger_way_both_f15.mono : ∀ a0 a1 a2 a3 a4 a5 a6 a7 a8 a9 a10 a11 a12 a13 a14 a15 k, LeO (ledger_way_both_f15.f k a0 a1 a2 a3 a4 a5 a6 a7 a8 a9 a10 a11 a12 a13 a14 a15) (ledger_way_both_f15.f (k + 1) a0 a1 a2 a3 a4 a5 a6 a7 a8 a9 a10 a11 a12 a13 a14 a15) := by
 intro a0 a1 a2 a3 a4 a5 a6 a7 a8 a9 a10 a11 a12 a13 a14 a15 k
 obtain ⟨ih0, ih1⟩ := ledger_way_both_f15.mono_l k
 unfold ledger_way_both_f15.f
 repeat' first
   | (with_reducible exact ih0 _ _ _ _ _ _ _ _ _ _ _ _ _ _ _)
   | (with_reducible exact ih1 _ _ _ _ _ _ _ _ _ _ _ _ _ _ _ _ _ _ _ _ _ _ _)
   | (with_reducible exact ledger_entry_right.mono _ _ _ _ _ _ _ _)
   | (with_reducible exact LeO.refl _)
   | (with_reducible exact LeO.none _)
   | (with_reducible refine LeO.ite ?_ ?_)
   | (with_reducible refine LeO.bind ?_ (fun _ => ?_))
   | exact ih0 _ _ _ _ _ _ _ _ _ _ _ _ _ _ _
   | exact ih1 _ _ _ _ _ _ _ _ _ _ _ _ _ _ _ _ _ _ _ _ _ _ _
   | exact ledger_entry_right.mono _ _ _ _ _ _ _ _
   | exact LeO.none _
   | refine LeO.ite ?_ ?_
   | refine LeO.bind ?_ (fun _ => ?_)
def ledger_way_both_f15.T5 : Bool × List (List Nat × List Nat) := (true, [([], []), ([0], [0]), ([], []), ([2], [2]), ([3], [3]), ([], []), ([5], [5]), ([6], [6]), ([1, 4, 7], [1, 4, 7]), ([], []), ([9], [9]), ([], []), ([11, 8], [11]), ([], []), ([13, 12], [13]), ([10, 12, 14, 14], [10, 12, 14]), ([], []), ([16], [16]), ([], []), ([18], [18]), ([19], [19]), ([], []), ([21], [21]), ([22], [22]), ([17, 20, 23, 15], [17, 20, 23]), ([8, 15, 24], [8, 15, 24]), ([25], [25]), ([], []), ([27, 26, 24, 0, 1, 2, 3, 4, 5, 6, 7, 8, 9, 10, 11, 12, 13, 14, 15, 16, 17, 18, 19, 20, 21, 22, 23, 24, 25, 26, 27], [26, 27])])
def ledger_way_both_f15.B5 : List Nat := [0, 1, 0, 4, 12, 0, 32, 96, 255, 0, 512, 0, 2559, 0, 14847, 32767, 0, 65536, 0, 262144, 786432, 0, 2097152, 6291456, 16777215, 33554431, 67108863, 0, 268435455]
theorem ledger_way_both_f15.tab5 : rtab .any (opsOf Try.f17 5) = ledger_way_both_f15.T5 := by kernel_rfl
theorem ledger_way_both_f15.bits5 : waitsOk ledger_way_both_f15.T5.2 ledger_way_both_f15.B5 = true := by kernel_rfl
def ledger_way_both_f15.T9 : Bool × List (List Nat × List Nat) := (true, [([], []), ([0], [0]), ([1], [1]), ([], []), ([3], [3]), ([], []), ([5], [5]), ([6], [6]), ([], []), ([7, 8], [7, 8]), ([9], [9]), ([], []), ([11], [11]), ([12], [12]), ([], []), ([13, 14], [13, 14]), ([15], [15]), ([4, 10, 16], [4, 10, 16]), ([17], [17]), ([2, 18, 17], [2, 18]), ([0, 1, 2, 3, 4, 5, 6, 7, 8, 9, 10, 11, 12, 13, 14, 15, 16, 17, 18, 19], []), ([20, 0, 1, 2, 3, 4, 5, 6, 7, 8, 9, 10, 11, 12, 13, 14, 15, 16, 17, 18, 19], [20]), ([21, 19, 19, 0, 1, 2, 3, 4, 5, 6, 7, 8, 9, 10, 11, 12, 13, 14, 15, 16, 17, 18, 19], [19, 21])])
def ledger_way_both_f15.B9 : List Nat := [0, 1, 3, 0, 8, 0, 32, 96, 0, 480, 992, 0, 2048, 6144, 0, 30720, 63488, 131064, 262136, 524287, 1048575, 2097151, 4194303]
theorem ledger_way_both_f15.tab9 : rtab .any (opsOf Try.f17 9) = ledger_way_both_f15.T9 := by kernel_rfl
theorem ledger_way_both_f15.bits9 : waitsOk ledger_way_both_f15.T9.2 ledger_way_both_f15.B9 = true := by kernel_rfl
set_option maxHeartbeats 8000000 in
set_option maxRecDepth 100000 in
theorem ledger_way_both_f15.calls (k : Nat) (a0_0 : Int) (a0_1 : Int) (A1_0 : Option Addr) (c1_0 : Nat) (l1_0 : List Int) (a1_1 : Int) (a1_2 : Int) (a1_3 : Int) (a1_4 : Int) (a1_5 : Int) (a1_6 : Bool) (A2_0 : Option Addr) (c2_0 : Nat) (l2_0 : List Int) (a2_1 : Int) (a2_2 : Int) (a2_3 : Int) (a2_4 : Int) (a2_5 : Int) (a2_6 : Bool) (r1 : List Int) (r2 : Int) (r3 : Int) (r4 : Int) (r5 : Int) (r6 : Int) (r7 : Bool) (r8 : Int) (w : World) (hr1_0 : Kd.C (Kd.int .i64) w A1_0 l1_0.length l1_0) (hc1_0 : l1_0.length ≤ c1_0) (hr2_0 : Kd.C (Kd.int .i64) w A2_0 l2_0.length l2_0) (hc2_0 : l2_0.length ≤ c2_0) (h : ledger_way_both_f15.f k a0_0 a0_1 l1_0 a1_1 a1_2 a1_3 a1_4 a1_5 a1_6 l2_0 a2_1 a2_2 a2_3 a2_4 a2_5 a2_6 = some (r1, r2, r3, r4, r5, r6, r7, r8)) :
  Calls Try.prog 17 #[.agg #[.func (.func 15) #[] #[], .func (.func 16) #[] #[]], .agg #[.slice A1_0 l1_0.length c1_0, .int .i64 a1_1, .int .u64 a1_2, .int .u64 a1_3, .int .u64 a1_4, .int .u64 a1_5, .bool a1_6], .agg #[.slice A2_0 l2_0.length c2_0, .int .i64 a2_1, .int .u64 a2_2, .int .u64 a2_3, .int .u64 a2_4, .int .u64 a2_5, .bool a2_6]] w fun e w' => ∃ v0_ : Value, e = .returned (.tuple #[.agg #[v0_, .int .i64 r2, .int .u64 r3, .int .u64 r4, .int .u64 r5, .int .u64 r6, .bool r7], .int .i64 r8]) ∧ Kd.R (Kd.int .i64) 3 w' w.heap.size (fun _ => True) v0_ r1 ∧ Below w.heap.size w w' := by
 have hu45 := Try.underlying45
 have hu48 := Try.underlying48
 have hu27 := Try.underlying27
 have hu25 := Try.underlying25
 have HR1_0 := Aside0.mk hr1_0
 have HC1_0 := Aside0.mk hc1_0
 clear hr1_0 hc1_0
 have HR2_0 := Aside0.mk hr2_0
 have HC2_0 := Aside0.mk hc2_0
 clear hr2_0 hc2_0
 have HB := Aside0.mk (Below.refl w.heap.size w)
 have H : (if (l1_0.length : Int) = (l2_0.length : Int) then ((ledger_entry_right.f k l1_0 a1_1 a1_2 a1_3 a1_4 a1_5 a1_6).bind fun t120 => (if t120 = true then ((ledger_entry_right.f k l2_0 a2_1 a2_2 a2_3 a2_4 a2_5 a2_6).bind fun t121 => (ledger_way_both_f15.j0 k (!t121) l1_0 a1_1 a1_2 a1_3 a1_4 a1_5 a1_6 l2_0 a2_1 a2_2 a2_3 a2_4 a2_5 a2_6)) else (ledger_way_both_f15.j0 k true l1_0 a1_1 a1_2 a1_3 a1_4 a1_5 a1_6 l2_0 a2_1 a2_2 a2_3 a2_4 a2_5 a2_6))) else (some (([] : List Int), 0, 0, 0, 0, 0, false, 1))) = some (r1, r2, r3, r4, r5, r6, r7, r8) := h
 clear h
 by_cases c4 : (l1_0.length : Int) = (l2_0.length : Int)
 ·
  rw [if_pos c4] at H
  have c4b0 : ((l1_0.length : Int) == (l2_0.length : Int)) = true := beq_iff_eq.mpr c4
  have c4b1 : ((l1_0.length : Int) != (l2_0.length : Int)) = false := bne_eq_false_iff_eq.mpr c4
  have c4b2 : (l1_0.length == l2_0.length) = true := by first | simpa using c4 | (simp at c4 ⊢; omega)
  clear c4
  have HC5 := Aside0.mk H
  clear H
  go_enter Try.func17, Try.ntmps17
  go_upto_region 3 with (first | ((with_reducible refine gate_dst (N := 3) rfl ?_); refine box_event ?hg (N := 3) ?hd (cs := #[.func (.func 15) #[] #[], .func (.func 16) #[] #[]]) (t := 45) ?hr ?_; (case hd => rfl); (case hg => rfl); (case hr => first | (go_simp; done) | (go_simp; rfl)); intro gb116 hg w6 hbox hb; have n0_ := Aside0.mk (below_step (by repeat (first | (with_reducible first | exact HB.out | apply below_alloc | apply pw_below_drewN | apply below_drew1) | exact HB.out)) hb); have n1_ := Aside0.mk (hbox); have n2_ := Aside0.mk ((by rw [hg]; exact (below_size (by repeat (first | (with_reducible first | exact HB.out | apply below_alloc | apply pw_below_drewN | apply below_drew1) | exact HB.out))) : w.heap.size ≤ gb116)); have n3_ := Aside0.mk ((by rw [hg]; exact (below_size (by repeat (first | (with_reducible first | exact HB.out | apply below_alloc | apply pw_below_drewN | apply below_drew1) | exact HB.out))) : w.heap.size ≤ gb116)); clear HB; have HB := n0_; have BK116 := n1_; have GW116 := n2_; have GE116 := n3_; clear n0_ n1_ n2_ n3_; clear hb hbox hg) | ((with_reducible refine gate_dst (N := 4) rfl ?_); refine box_event ?hg (N := 4) ?hd (cs := #[.slice A1_0 l1_0.length c1_0, .int .i64 a1_1, .int .u64 a1_2, .int .u64 a1_3, .int .u64 a1_4, .int .u64 a1_5, .bool a1_6]) (t := 48) ?hr ?_; (case hd => rfl); (case hg => rfl); (case hr => first | (go_simp; done) | (go_simp; rfl)); intro gb117 hg w7 hbox hb; have n0_ := ledger_way_both_f15.keepB BK116 hb; have n1_ := Aside0.mk (below_step (by repeat (first | (with_reducible first | exact HB.out | apply below_alloc | apply pw_below_drewN | apply below_drew1 | refine below_set ?_ GE116.out) | exact HB.out)) hb); have n2_ := Aside0.mk (hbox); have n3_ := Aside0.mk ((by rw [hg]; exact (below_size (by repeat (first | (with_reducible first | exact HB.out | apply below_alloc | apply pw_below_drewN | apply below_drew1 | refine below_set ?_ GE116.out) | exact HB.out))) : w.heap.size ≤ gb117)); have n4_ := Aside0.mk ((by rw [hg]; exact (below_size (by repeat (first | (with_reducible first | exact HB.out | apply below_alloc | apply pw_below_drewN | apply below_drew1 | refine below_set ?_ GE116.out) | exact HB.out))) : w.heap.size ≤ gb117)); have n5_ := ledger_way_both_f15.neL BK116 hg; have n6_ := ledger_way_both_f15.neG BK116 hg; clear BK116; clear HB; have BK116 := n0_; have HB := n1_; have BK117 := n2_; have GW117 := n3_; have GE117 := n4_; have NB116_117 := n5_; have NB117_116 := n6_; clear n0_ n1_ n2_ n3_ n4_ n5_ n6_; clear hb hbox hg) | ((with_reducible refine gate_dst (N := 5) rfl ?_); refine box_event ?hg (N := 5) ?hd (cs := #[.slice A2_0 l2_0.length c2_0, .int .i64 a2_1, .int .u64 a2_2, .int .u64 a2_3, .int .u64 a2_4, .int .u64 a2_5, .bool a2_6]) (t := 48) ?hr ?_; (case hd => rfl); (case hg => rfl); (case hr => first | (go_simp; done) | (go_simp; rfl)); intro gb118 hg w8 hbox hb; have n0_ := ledger_way_both_f15.keepB BK116 hb; have n1_ := ledger_way_both_f15.keepB BK117 hb; have n2_ := Aside0.mk (below_step (by repeat (first | (with_reducible first | exact HB.out | apply below_alloc | apply pw_below_drewN | apply below_drew1 | refine below_set ?_ GE116.out | refine below_set ?_ GE117.out) | exact HB.out)) hb); have n3_ := Aside0.mk (hbox); have n4_ := Aside0.mk ((by rw [hg]; exact (below_size (by repeat (first | (with_reducible first | exact HB.out | apply below_alloc | apply pw_below_drewN | apply below_drew1 | refine below_set ?_ GE116.out | refine below_set ?_ GE117.out) | exact HB.out))) : w.heap.size ≤ gb118)); have n5_ := Aside0.mk ((by rw [hg]; exact (below_size (by repeat (first | (with_reducible first | exact HB.out | apply below_alloc | apply pw_below_drewN | apply below_drew1 | refine below_set ?_ GE116.out | refine below_set ?_ GE117.out) | exact HB.out))) : w.heap.size ≤ gb118)); have n6_ := ledger_way_both_f15.neL BK116 hg; have n7_ := ledger_way_both_f15.neG BK116 hg; have n8_ := ledger_way_both_f15.neL BK117 hg; have n9_ := ledger_way_both_f15.neG BK117 hg; clear BK116; clear BK117; clear HB; have BK116 := n0_; have BK117 := n1_; have HB := n2_; have BK118 := n3_; have GW118 := n4_; have GE118 := n5_; have NB116_118 := n6_; have NB118_116 := n7_; have NB117_118 := n8_; have NB118_117 := n9_; clear n0_ n1_ n2_ n3_ n4_ n5_ n6_ n7_ n8_ n9_; clear hb hbox hg) | ((with_reducible refine gate_dst (N := 6) rfl ?_); refine box_event ?hg (N := 6) ?hd (cs := #[.slice none 0 0, .int .i64 0, .int .u64 0, .int .u64 0, .int .u64 0, .int .u64 0, .bool false]) (t := 27) ?hr ?_; (case hd => rfl); (case hg => rfl); (case hr => first | (go_simp; done) | (go_simp; rfl)); intro gb119 hg w9 hbox hb; have n0_ := ledger_way_both_f15.keepB BK116 hb; have n1_ := ledger_way_both_f15.keepB BK117 hb; have n2_ := ledger_way_both_f15.keepB BK118 hb; have n3_ := Aside0.mk (below_step (by repeat (first | (with_reducible first | exact HB.out | apply below_alloc | apply pw_below_drewN | apply below_drew1 | refine below_set ?_ GE116.out | refine below_set ?_ GE117.out | refine below_set ?_ GE118.out) | exact HB.out)) hb); have n4_ := Aside0.mk (hbox); have n5_ := Aside0.mk ((by rw [hg]; exact (below_size (by repeat (first | (with_reducible first | exact HB.out | apply below_alloc | apply pw_below_drewN | apply below_drew1 | refine below_set ?_ GE116.out | refine below_set ?_ GE117.out | refine below_set ?_ GE118.out) | exact HB.out))) : w.heap.size ≤ gb119)); have n6_ := Aside0.mk ((by rw [hg]; exact (below_size (by repeat (first | (with_reducible first | exact HB.out | apply below_alloc | apply pw_below_drewN | apply below_drew1 | refine below_set ?_ GE116.out | refine below_set ?_ GE117.out | refine below_set ?_ GE118.out) | exact HB.out))) : w.heap.size ≤ gb119)); have n7_ := ledger_way_both_f15.neL BK116 hg; have n8_ := ledger_way_both_f15.neG BK116 hg; have n9_ := ledger_way_both_f15.neL BK117 hg; have n10_ := ledger_way_both_f15.neG BK117 hg; have n11_ := ledger_way_both_f15.neL BK118 hg; have n12_ := ledger_way_both_f15.neG BK118 hg; clear BK116; clear BK117; clear BK118; clear HB; have BK116 := n0_; have BK117 := n1_; have BK118 := n2_; have HB := n3_; have BK119 := n4_; have GW119 := n5_; have GE119 := n6_; have NB116_119 := n7_; have NB119_116 := n8_; have NB117_119 := n9_; have NB119_117 := n10_; have NB118_119 := n11_; have NB119_118 := n12_; clear n0_ n1_ n2_ n3_ n4_ n5_ n6_ n7_ n8_ n9_ n10_ n11_ n12_; clear hb hbox hg; have hnb10 := NB117_116.out; have hnc10 := NB116_117.out; have hnb11 := NB117_118.out; have hnc11 := NB118_117.out; have hnb12 := NB117_119.out; have hnc12 := NB119_117.out; have hcz13_0 : w9.cell? ⟨gb117, 0, none⟩ = some (.slice A1_0 l1_0.length c1_0) := (blk_cell BK117.out 0).trans rfl; have hcz13_1 : w9.cell? ⟨gb117, 1, none⟩ = some (.int .i64 a1_1) := (blk_cell BK117.out 1).trans rfl; have hcz13_2 : w9.cell? ⟨gb117, 2, none⟩ = some (.int .u64 a1_2) := (blk_cell BK117.out 2).trans rfl; have hcz13_3 : w9.cell? ⟨gb117, 3, none⟩ = some (.int .u64 a1_3) := (blk_cell BK117.out 3).trans rfl; have hcz13_4 : w9.cell? ⟨gb117, 4, none⟩ = some (.int .u64 a1_4) := (blk_cell BK117.out 4).trans rfl; have hcz13_5 : w9.cell? ⟨gb117, 5, none⟩ = some (.int .u64 a1_5) := (blk_cell BK117.out 5).trans rfl; have hcz13_6 : w9.cell? ⟨gb117, 6, none⟩ = some (.bool a1_6) := (blk_cell BK117.out 6).trans rfl; have hfz13_0 := blk_frozen BK117.out 0; have hfz13_1 := blk_frozen BK117.out 1; have hfz13_2 := blk_frozen BK117.out 2; have hfz13_3 := blk_frozen BK117.out 3; have hfz13_4 := blk_frozen BK117.out 4; have hfz13_5 := blk_frozen BK117.out 5; have hfz13_6 := blk_frozen BK117.out 6; have hnb14 := NB118_116.out; have hnc14 := NB116_118.out; have hnb15 := NB118_119.out; have hnc15 := NB119_118.out; have hcz16_0 : w9.cell? ⟨gb118, 0, none⟩ = some (.slice A2_0 l2_0.length c2_0) := (blk_cell BK118.out 0).trans rfl; have hcz16_1 : w9.cell? ⟨gb118, 1, none⟩ = some (.int .i64 a2_1) := (blk_cell BK118.out 1).trans rfl; have hcz16_2 : w9.cell? ⟨gb118, 2, none⟩ = some (.int .u64 a2_2) := (blk_cell BK118.out 2).trans rfl; have hcz16_3 : w9.cell? ⟨gb118, 3, none⟩ = some (.int .u64 a2_3) := (blk_cell BK118.out 3).trans rfl; have hcz16_4 : w9.cell? ⟨gb118, 4, none⟩ = some (.int .u64 a2_4) := (blk_cell BK118.out 4).trans rfl; have hcz16_5 : w9.cell? ⟨gb118, 5, none⟩ = some (.int .u64 a2_5) := (blk_cell BK118.out 5).trans rfl; have hcz16_6 : w9.cell? ⟨gb118, 6, none⟩ = some (.bool a2_6) := (blk_cell BK118.out 6).trans rfl; have hfz16_0 := blk_frozen BK118.out 0; have hfz16_1 := blk_frozen BK118.out 1; have hfz16_2 := blk_frozen BK118.out 2; have hfz16_3 := blk_frozen BK118.out 3; have hfz16_4 := blk_frozen BK118.out 4; have hfz16_5 := blk_frozen BK118.out 5; have hfz16_6 := blk_frozen BK118.out 6))
  (try simp only [Act.put, List.setIfInBounds_toArray, List.set_cons_zero, List.set_cons_succ])
  go_cut [27] (fun v27 wc => ∃ (kq : Nat) (x27_4 : Bool), v27 = .bool x27_4 ∧ Aside0 (ledger_way_both_f15.j0 kq x27_4 l1_0 a1_1 a1_2 a1_3 a1_4 a1_5 a1_6 l2_0 a2_1 a2_2 a2_3 a2_4 a2_5 a2_6 = some (r1, r2, r3, r4, r5, r6, r7, r8)) ∧ Aside0 (kq ≤ k) ∧ Aside0 (wc.heap[gb116]? = some (.cells #[.func (.func 15) #[] #[], .func (.func 16) #[] #[]] 45 (0, 0))) ∧ Aside0 (wc.heap[gb117]? = some (.cells #[(.slice A1_0 l1_0.length c1_0), .int .i64 a1_1, .int .u64 a1_2, .int .u64 a1_3, .int .u64 a1_4, .int .u64 a1_5, .bool a1_6] 48 (0, 0))) ∧ Aside0 (wc.heap[gb118]? = some (.cells #[(.slice A2_0 l2_0.length c2_0), .int .i64 a2_1, .int .u64 a2_2, .int .u64 a2_3, .int .u64 a2_4, .int .u64 a2_5, .bool a2_6] 48 (0, 0))) ∧ Aside0 (wc.heap[gb119]? = some (.cells #[(.slice none 0 0), .int .i64 0, .int .u64 0, .int .u64 0, .int .u64 0, .int .u64 0, .bool false] 27 (0, 0))) ∧ Aside0 (Below w.heap.size w wc))
  case first =>
   have H := HC5.out
   clear HC5
   replace H := Option.bind_eq_some_iff.mp H
   obtain ⟨t120, A170, H⟩ := H
   replace H : (if t120 = true then ((ledger_entry_right.f k l2_0 a2_1 a2_2 a2_3 a2_4 a2_5 a2_6).bind fun t121 => (ledger_way_both_f15.j0 k (!t121) l1_0 a1_1 a1_2 a1_3 a1_4 a1_5 a1_6 l2_0 a2_1 a2_2 a2_3 a2_4 a2_5 a2_6)) else (ledger_way_both_f15.j0 k true l1_0 a1_1 a1_2 a1_3 a1_4 a1_5 a1_6 l2_0 a2_1 a2_2 a2_3 a2_4 a2_5 a2_6)) = some (r1, r2, r3, r4, r5, r6, r7, r8) := H
   have A17 := Aside0.mk A170
   clear A170
   by_cases c18 : t120 = true
   ·
    subst c18
    have H1 : ((ledger_entry_right.f k l2_0 a2_1 a2_2 a2_3 a2_4 a2_5 a2_6).bind fun t121 => (ledger_way_both_f15.j0 k (!t121) l1_0 a1_1 a1_2 a1_3 a1_4 a1_5 a1_6 l2_0 a2_1 a2_2 a2_3 a2_4 a2_5 a2_6)) = some (r1, r2, r3, r4, r5, r6, r7, r8) := by rw [if_pos rfl] at H; exact H
    clear H
    have H := H1
    clear H1
    replace H := Option.bind_eq_some_iff.mp H
    obtain ⟨t121, A190, H⟩ := H
    replace H : (ledger_way_both_f15.j0 k (!t121) l1_0 a1_1 a1_2 a1_3 a1_4 a1_5 a1_6 l2_0 a2_1 a2_2 a2_3 a2_4 a2_5 a2_6) = some (r1, r2, r3, r4, r5, r6, r7, r8) := H
    have A19 := Aside0.mk A190
    clear A190
    have H' := Aside0.mk H
    clear H
    have hnb20 := NB117_116.out
    have hnc20 := NB116_117.out
    have hnb21 := NB117_118.out
    have hnc21 := NB118_117.out
    have hnb22 := NB117_119.out
    have hnc22 := NB119_117.out
    have hcz23_0 : w9.cell? ⟨gb117, 0, none⟩ = some (.slice A1_0 l1_0.length c1_0) := (blk_cell BK117.out 0).trans rfl
    have hcz23_1 : w9.cell? ⟨gb117, 1, none⟩ = some (.int .i64 a1_1) := (blk_cell BK117.out 1).trans rfl
    have hcz23_2 : w9.cell? ⟨gb117, 2, none⟩ = some (.int .u64 a1_2) := (blk_cell BK117.out 2).trans rfl
    have hcz23_3 : w9.cell? ⟨gb117, 3, none⟩ = some (.int .u64 a1_3) := (blk_cell BK117.out 3).trans rfl
    have hcz23_4 : w9.cell? ⟨gb117, 4, none⟩ = some (.int .u64 a1_4) := (blk_cell BK117.out 4).trans rfl
    have hcz23_5 : w9.cell? ⟨gb117, 5, none⟩ = some (.int .u64 a1_5) := (blk_cell BK117.out 5).trans rfl
    have hcz23_6 : w9.cell? ⟨gb117, 6, none⟩ = some (.bool a1_6) := (blk_cell BK117.out 6).trans rfl
    have hfz23_0 := blk_frozen BK117.out 0
    have hfz23_1 := blk_frozen BK117.out 1
    have hfz23_2 := blk_frozen BK117.out 2
    have hfz23_3 := blk_frozen BK117.out 3
    have hfz23_4 := blk_frozen BK117.out 4
    have hfz23_5 := blk_frozen BK117.out 5
    have hfz23_6 := blk_frozen BK117.out 6
    go_wp2_with (first | ((with_reducible refine gate_callee (f := 31) rfl ?_); refine goesL_ (some 21) rfl rfl Try.func31 (by kernel_rfl) rfl #[.agg #[.slice A1_0 l1_0.length c1_0, .int .i64 a1_1, .int .u64 a1_2, .int .u64 a1_3, .int .u64 a1_4, .int .u64 a1_5, .bool a1_6]] rfl (by (try simp only [List.map_toArray, List.map_cons, List.map_nil]); first | done | rfl | (simp only [List.length_drop, List.length_take]; rfl)) ?_; (with_reducible refine (ledger_entry_right.calls k _ _ l1_0 a1_1 a1_2 a1_3 a1_4 a1_5 a1_6 true _ ?side1 ?side2 A17.out).mono ?_); (case side1 => repeat (first | exact (Kd.C_below HR1_0.out HB.out) | (with_reducible refine Kd.C_alloc ?_ _) | (with_reducible refine Kd.C_drewN ?_ _) | (with_reducible refine Kd.C_drew ?_))); (case side2 => exact HC1_0.out); rintro e w24 ⟨rfl, hb⟩; refine ⟨_, rfl, ?_⟩; have n0_ := ledger_way_both_f15.keepB BK116 hb; have n1_ := ledger_way_both_f15.keepB BK117 hb; have n2_ := ledger_way_both_f15.keepB BK118 hb; have n3_ := ledger_way_both_f15.keepB BK119 hb; have n4_ := Aside0.mk (below_step (by repeat (first | (with_reducible first | exact HB.out | apply below_alloc | apply pw_below_drewN | apply below_drew1 | refine below_set ?_ GE116.out | refine below_set ?_ GE117.out | refine below_set ?_ GE118.out | refine below_set ?_ GE119.out) | exact HB.out)) hb); clear BK116; clear BK117; clear BK118; clear BK119; clear HB; have BK116 := n0_; have BK117 := n1_; have BK118 := n2_; have BK119 := n3_; have HB := n4_; clear n0_ n1_ n2_ n3_ n4_; (try clear hb); (try clear hb2); (try clear hk); (try clear hi); have hnb25 := NB118_116.out; have hnc25 := NB116_118.out; have hnb26 := NB118_119.out; have hnc26 := NB119_118.out; have hcz27_0 : w24.cell? ⟨gb118, 0, none⟩ = some (.slice A2_0 l2_0.length c2_0) := (blk_cell BK118.out 0).trans rfl; have hcz27_1 : w24.cell? ⟨gb118, 1, none⟩ = some (.int .i64 a2_1) := (blk_cell BK118.out 1).trans rfl; have hcz27_2 : w24.cell? ⟨gb118, 2, none⟩ = some (.int .u64 a2_2) := (blk_cell BK118.out 2).trans rfl; have hcz27_3 : w24.cell? ⟨gb118, 3, none⟩ = some (.int .u64 a2_3) := (blk_cell BK118.out 3).trans rfl; have hcz27_4 : w24.cell? ⟨gb118, 4, none⟩ = some (.int .u64 a2_4) := (blk_cell BK118.out 4).trans rfl; have hcz27_5 : w24.cell? ⟨gb118, 5, none⟩ = some (.int .u64 a2_5) := (blk_cell BK118.out 5).trans rfl; have hcz27_6 : w24.cell? ⟨gb118, 6, none⟩ = some (.bool a2_6) := (blk_cell BK118.out 6).trans rfl; have hfz27_0 := blk_frozen BK118.out 0; have hfz27_1 := blk_frozen BK118.out 1; have hfz27_2 := blk_frozen BK118.out 2; have hfz27_3 := blk_frozen BK118.out 3; have hfz27_4 := blk_frozen BK118.out 4; have hfz27_5 := blk_frozen BK118.out 5; have hfz27_6 := blk_frozen BK118.out 6) | (go_at_call 31; (with_reducible refine (ledger_entry_right.calls k _ _ l2_0 a2_1 a2_2 a2_3 a2_4 a2_5 a2_6 t121 _ ?side1 ?side2 A19.out).mono ?_); (case side1 => repeat (first | exact (Kd.C_below HR2_0.out HB.out) | (with_reducible refine Kd.C_alloc ?_ _) | (with_reducible refine Kd.C_drewN ?_ _) | (with_reducible refine Kd.C_drew ?_))); (case side2 => exact HC2_0.out); rintro e w28 ⟨rfl, hb⟩; have n0_ := ledger_way_both_f15.keepB BK116 hb; have n1_ := ledger_way_both_f15.keepB BK117 hb; have n2_ := ledger_way_both_f15.keepB BK118 hb; have n3_ := ledger_way_both_f15.keepB BK119 hb; have n4_ := Aside0.mk (below_step (by repeat (first | (with_reducible first | exact HB.out | apply below_alloc | apply pw_below_drewN | apply below_drew1 | refine below_set ?_ GE116.out | refine below_set ?_ GE117.out | refine below_set ?_ GE118.out | refine below_set ?_ GE119.out) | exact HB.out)) hb); clear BK116; clear BK117; clear BK118; clear BK119; clear HB; have BK116 := n0_; have BK117 := n1_; have BK118 := n2_; have BK119 := n3_; have HB := n4_; clear n0_ n1_ n2_ n3_ n4_; (try clear hb); (try clear hb2); (try clear hk); (try clear hi)))
    go_meet
    case rel => exact ⟨_, (!t121), (by first | rfl | (simp; done) | (simp [*]; done)), H', ⟨by first | omega | exact Nat.le_refl _⟩, ⟨by (with_reducible repeat (first | refine blk_drewN ?_ _ | refine blk_drew ?_ | refine blk_alloc ?_ _)); exact BK116.out⟩, ⟨by (with_reducible repeat (first | refine blk_drewN ?_ _ | refine blk_drew ?_ | refine blk_alloc ?_ _)); exact BK117.out⟩, ⟨by (with_reducible repeat (first | refine blk_drewN ?_ _ | refine blk_drew ?_ | refine blk_alloc ?_ _)); exact BK118.out⟩, ⟨by (with_reducible repeat (first | refine blk_drewN ?_ _ | refine blk_drew ?_ | refine blk_alloc ?_ _)); exact BK119.out⟩, ⟨by repeat (first | (with_reducible first | exact HB.out | apply below_alloc | apply pw_below_drewN | apply below_drew1 | refine below_set ?_ GE116.out | refine below_set ?_ GE117.out | refine below_set ?_ GE118.out | refine below_set ?_ GE119.out) | exact HB.out)⟩⟩
   ·
    replace c18 := Bool.eq_false_iff.mpr c18
    subst c18
    have H1 : (ledger_way_both_f15.j0 k true l1_0 a1_1 a1_2 a1_3 a1_4 a1_5 a1_6 l2_0 a2_1 a2_2 a2_3 a2_4 a2_5 a2_6) = some (r1, r2, r3, r4, r5, r6, r7, r8) := by rw [if_neg (show ¬ (false = true) by decide)] at H; exact H
    clear H
    have H := H1
    clear H1
    have H' := Aside0.mk H
    clear H
    have hnb29 := NB117_116.out
    have hnc29 := NB116_117.out
    have hnb30 := NB117_118.out
    have hnc30 := NB118_117.out
    have hnb31 := NB117_119.out
    have hnc31 := NB119_117.out
    have hcz32_0 : w9.cell? ⟨gb117, 0, none⟩ = some (.slice A1_0 l1_0.length c1_0) := (blk_cell BK117.out 0).trans rfl
    have hcz32_1 : w9.cell? ⟨gb117, 1, none⟩ = some (.int .i64 a1_1) := (blk_cell BK117.out 1).trans rfl
    have hcz32_2 : w9.cell? ⟨gb117, 2, none⟩ = some (.int .u64 a1_2) := (blk_cell BK117.out 2).trans rfl
    have hcz32_3 : w9.cell? ⟨gb117, 3, none⟩ = some (.int .u64 a1_3) := (blk_cell BK117.out 3).trans rfl
    have hcz32_4 : w9.cell? ⟨gb117, 4, none⟩ = some (.int .u64 a1_4) := (blk_cell BK117.out 4).trans rfl
    have hcz32_5 : w9.cell? ⟨gb117, 5, none⟩ = some (.int .u64 a1_5) := (blk_cell BK117.out 5).trans rfl
    have hcz32_6 : w9.cell? ⟨gb117, 6, none⟩ = some (.bool a1_6) := (blk_cell BK117.out 6).trans rfl
    have hfz32_0 := blk_frozen BK117.out 0
    have hfz32_1 := blk_frozen BK117.out 1
    have hfz32_2 := blk_frozen BK117.out 2
    have hfz32_3 := blk_frozen BK117.out 3
    have hfz32_4 := blk_frozen BK117.out 4
    have hfz32_5 := blk_frozen BK117.out 5
    have hfz32_6 := blk_frozen BK117.out 6
    go_wp2_with (first | ((with_reducible refine gate_callee (f := 31) rfl ?_); refine goesL_ (some 21) rfl rfl Try.func31 (by kernel_rfl) rfl #[.agg #[.slice A1_0 l1_0.length c1_0, .int .i64 a1_1, .int .u64 a1_2, .int .u64 a1_3, .int .u64 a1_4, .int .u64 a1_5, .bool a1_6]] rfl (by (try simp only [List.map_toArray, List.map_cons, List.map_nil]); first | done | rfl | (simp only [List.length_drop, List.length_take]; rfl)) ?_; (with_reducible refine (ledger_entry_right.calls k _ _ l1_0 a1_1 a1_2 a1_3 a1_4 a1_5 a1_6 false _ ?side1 ?side2 A17.out).mono ?_); (case side1 => repeat (first | exact (Kd.C_below HR1_0.out HB.out) | (with_reducible refine Kd.C_alloc ?_ _) | (with_reducible refine Kd.C_drewN ?_ _) | (with_reducible refine Kd.C_drew ?_))); (case side2 => exact HC1_0.out); rintro e w33 ⟨rfl, hb⟩; refine ⟨_, rfl, ?_⟩; have n0_ := ledger_way_both_f15.keepB BK116 hb; have n1_ := ledger_way_both_f15.keepB BK117 hb; have n2_ := ledger_way_both_f15.keepB BK118 hb; have n3_ := ledger_way_both_f15.keepB BK119 hb; have n4_ := Aside0.mk (below_step (by repeat (first | (with_reducible first | exact HB.out | apply below_alloc | apply pw_below_drewN | apply below_drew1 | refine below_set ?_ GE116.out | refine below_set ?_ GE117.out | refine below_set ?_ GE118.out | refine below_set ?_ GE119.out) | exact HB.out)) hb); clear BK116; clear BK117; clear BK118; clear BK119; clear HB; have BK116 := n0_; have BK117 := n1_; have BK118 := n2_; have BK119 := n3_; have HB := n4_; clear n0_ n1_ n2_ n3_ n4_; (try clear hb); (try clear hb2); (try clear hk); (try clear hi)))
    go_meet
    case rel => exact ⟨_, (true), (by first | rfl | (simp; done) | (simp [*]; done)), H', ⟨by first | omega | exact Nat.le_refl _⟩, ⟨by (with_reducible repeat (first | refine blk_drewN ?_ _ | refine blk_drew ?_ | refine blk_alloc ?_ _)); exact BK116.out⟩, ⟨by (with_reducible repeat (first | refine blk_drewN ?_ _ | refine blk_drew ?_ | refine blk_alloc ?_ _)); exact BK117.out⟩, ⟨by (with_reducible repeat (first | refine blk_drewN ?_ _ | refine blk_drew ?_ | refine blk_alloc ?_ _)); exact BK118.out⟩, ⟨by (with_reducible repeat (first | refine blk_drewN ?_ _ | refine blk_drew ?_ | refine blk_alloc ?_ _)); exact BK119.out⟩, ⟨by repeat (first | (with_reducible first | exact HB.out | apply below_alloc | apply pw_below_drewN | apply below_drew1 | refine below_set ?_ GE116.out | refine below_set ?_ GE117.out | refine below_set ?_ GE118.out | refine below_set ?_ GE119.out) | exact HB.out)⟩⟩
  case rest =>
   clear HC5
   try clear c1
   try clear c2
   try clear p2
   try clear c3
   try clear c4
   try clear c4b0
   try clear c4b1
   try clear c4b2
   try clear c9
   try clear c10
   try clear c11
   try clear c12
   try clear c14
   try clear c15
   try clear c18
   try clear c20
   try clear c21
   try clear c22
   try clear c25
   try clear c26
   try clear c29
   try clear c30
   try clear c31
   try clear hcz13_0
   try clear hcz13_1
   try clear hcz13_2
   try clear hcz13_3
   try clear hcz13_4
   try clear hcz13_5
   try clear hcz13_6
   try clear hcz16_0
   try clear hcz16_1
   try clear hcz16_2
   try clear hcz16_3
   try clear hcz16_4
   try clear hcz16_5
   try clear hcz16_6
   try clear hcz23_0
   try clear hcz23_1
   try clear hcz23_2
   try clear hcz23_3
   try clear hcz23_4
   try clear hcz23_5
   try clear hcz23_6
   try clear hcz27_0
   try clear hcz27_1
   try clear hcz27_2
   try clear hcz27_3
   try clear hcz27_4
   try clear hcz27_5
   try clear hcz27_6
   try clear hcz32_0
   try clear hcz32_1
   try clear hcz32_2
   try clear hcz32_3
   try clear hcz32_4
   try clear hcz32_5
   try clear hcz32_6
   try clear hfz13_0
   try clear hfz13_1
   try clear hfz13_2
   try clear hfz13_3
   try clear hfz13_4
   try clear hfz13_5
   try clear hfz13_6
   try clear hfz16_0
   try clear hfz16_1
   try clear hfz16_2
   try clear hfz16_3
   try clear hfz16_4
   try clear hfz16_5
   try clear hfz16_6
   try clear hfz23_0
   try clear hfz23_1
   try clear hfz23_2
   try clear hfz23_3
   try clear hfz23_4
   try clear hfz23_5
   try clear hfz23_6
   try clear hfz27_0
   try clear hfz27_1
   try clear hfz27_2
   try clear hfz27_3
   try clear hfz27_4
   try clear hfz27_5
   try clear hfz27_6
   try clear hfz32_0
   try clear hfz32_1
   try clear hfz32_2
   try clear hfz32_3
   try clear hfz32_4
   try clear hfz32_5
   try clear hfz32_6
   obtain ⟨kq, x27_4, rfl, HA, HJ4, BK116, BK117, BK118, BK119, HB⟩ := hcut
   cases kq with
   | zero => exact absurd HA.out (by simp [ledger_way_both_f15.j0])
   | succ kj4 =>
    have H := HA.out
    clear HA
    simp only [ledger_way_both_f15.j0] at H
    by_cases c34 : x27_4 = true
    ·
     subst c34
     have H1 : (some (([] : List Int), 0, 0, 0, 0, 0, false, 4)) = some (r1, r2, r3, r4, r5, r6, r7, r8) := by rw [if_pos rfl] at H; exact H
     clear H
     have H := H1
     clear H1
     simp only [Option.some.injEq, Prod.mk.injEq] at H
     obtain ⟨rfl, rfl, rfl, rfl, rfl, rfl, rfl, rfl⟩ := H
     have hnb35 := NB119_116.out
     have hnc35 := NB116_119.out
     have hnb36 := NB119_117.out
     have hnc36 := NB117_119.out
     have hnb37 := NB119_118.out
     have hnc37 := NB118_119.out
     have hcz38_0 : wc.cell? ⟨gb119, 0, none⟩ = some (.slice none 0 0) := (blk_cell BK119.out 0).trans rfl
     have hcz38_1 : wc.cell? ⟨gb119, 1, none⟩ = some (.int .i64 0) := (blk_cell BK119.out 1).trans rfl
     have hcz38_2 : wc.cell? ⟨gb119, 2, none⟩ = some (.int .u64 0) := (blk_cell BK119.out 2).trans rfl
     have hcz38_3 : wc.cell? ⟨gb119, 3, none⟩ = some (.int .u64 0) := (blk_cell BK119.out 3).trans rfl
     have hcz38_4 : wc.cell? ⟨gb119, 4, none⟩ = some (.int .u64 0) := (blk_cell BK119.out 4).trans rfl
     have hcz38_5 : wc.cell? ⟨gb119, 5, none⟩ = some (.int .u64 0) := (blk_cell BK119.out 5).trans rfl
     have hcz38_6 : wc.cell? ⟨gb119, 6, none⟩ = some (.bool false) := (blk_cell BK119.out 6).trans rfl
     have hfz38_0 := blk_frozen BK119.out 0
     have hfz38_1 := blk_frozen BK119.out 1
     have hfz38_2 := blk_frozen BK119.out 2
     have hfz38_3 := blk_frozen BK119.out 3
     have hfz38_4 := blk_frozen BK119.out 4
     have hfz38_5 := blk_frozen BK119.out 5
     have hfz38_6 := blk_frozen BK119.out 6
     go_wp2
     refine bodyPost_ret (results_ct rfl _ _ gb119 27 #[.slice none 0 0, .int .i64 0, .int .u64 0, .int .u64 0, .int .u64 0, .int .u64 0, .bool false] (0, 0) _ rfl (by (with_reducible repeat (first | refine blk_drewN ?_ _ | refine blk_drew ?_ | refine blk_alloc ?_ _)); refine blk_put (cs := #[.slice none 0 0, .int .i64 0, .int .u64 0, .int .u64 0, .int .u64 0, .int .u64 0, .bool false]) ?_ 6 _ rfl; (with_reducible repeat (first | refine blk_drewN ?_ _ | refine blk_drew ?_ | refine blk_alloc ?_ _)); refine blk_put (cs := #[.slice none 0 0, .int .i64 0, .int .u64 0, .int .u64 0, .int .u64 0, .int .u64 0, .bool false]) ?_ 5 _ rfl; (with_reducible repeat (first | refine blk_drewN ?_ _ | refine blk_drew ?_ | refine blk_alloc ?_ _)); refine blk_put (cs := #[.slice none 0 0, .int .i64 0, .int .u64 0, .int .u64 0, .int .u64 0, .int .u64 0, .bool false]) ?_ 4 _ rfl; (with_reducible repeat (first | refine blk_drewN ?_ _ | refine blk_drew ?_ | refine blk_alloc ?_ _)); refine blk_put (cs := #[.slice none 0 0, .int .i64 0, .int .u64 0, .int .u64 0, .int .u64 0, .int .u64 0, .bool false]) ?_ 3 _ rfl; (with_reducible repeat (first | refine blk_drewN ?_ _ | refine blk_drew ?_ | refine blk_alloc ?_ _)); refine blk_put (cs := #[.slice none 0 0, .int .i64 0, .int .u64 0, .int .u64 0, .int .u64 0, .int .u64 0, .bool false]) ?_ 2 _ rfl; (with_reducible repeat (first | refine blk_drewN ?_ _ | refine blk_drew ?_ | refine blk_alloc ?_ _)); refine blk_put (cs := #[.slice none 0 0, .int .i64 0, .int .u64 0, .int .u64 0, .int .u64 0, .int .u64 0, .bool false]) ?_ 1 _ rfl; (with_reducible repeat (first | refine blk_drewN ?_ _ | refine blk_drew ?_ | refine blk_alloc ?_ _)); refine blk_put (cs := #[.slice none 0 0, .int .i64 0, .int .u64 0, .int .u64 0, .int .u64 0, .int .u64 0, .bool false]) ?_ 0 _ rfl; (with_reducible repeat (first | refine blk_drewN ?_ _ | refine blk_drew ?_ | refine blk_alloc ?_ _)); exact BK119.out) Try.underlying27 rfl (by kernel_rfl)) rfl ?_
     exact ⟨_, by first | rfl | (simp [errW_none, errW_some] <;> rfl) | (simp [*, errW_none, errW_some] <;> rfl), by first | exact Kd.R_nil _ _ _ _ _ | exact Kd.N_nil _ _ _ _ _ | exact Kd.V_nil _ _ _ _ _ | exact Kd.Q_nil _ _ _ _ _ | exact Kd.S_nil _ _ _ _ _, by repeat (first | (with_reducible first | exact HB.out | apply below_alloc | apply pw_below_drewN | apply below_drew1 | refine below_set ?_ GE116.out | refine below_set ?_ GE117.out | refine below_set ?_ GE118.out | refine below_set ?_ GE119.out) | exact HB.out)⟩
    ·
     replace c34 := Bool.eq_false_iff.mpr c34
     subst c34
     have H1 : ((ledger_plus.f a1_1 a2_1).bind fun t122 => ((ledger_entry_sum.f l1_0 a1_1 a1_2 a1_3 a1_4 a1_5 a1_6).bind fun bt123 => ((ledger_entry_sum.f l2_0 a2_1 a2_2 a2_3 a2_4 a2_5 a2_6).bind fun bt125 => ((wide_Add.f bt123.1 bt123.2 bt125.1 bt125.2).bind fun bt127 => ((wide_Add.f a1_4 a1_5 a2_4 a2_5).bind fun bt129 => (ledger_way_both_f15.l0 kj4 (l1_0.length : Int) 0 l1_0 a1_1 a1_2 a1_3 a1_4 a1_5 a1_6 l2_0 a2_1 a2_2 a2_3 a2_4 a2_5 a2_6 ([] : List Int) t122 bt127.1 bt127.2 bt129.1 bt129.2 false)))))) = some (r1, r2, r3, r4, r5, r6, r7, r8) := by rw [if_neg (show ¬ (false = true) by decide)] at H; exact H
     clear H
     have H := H1
     clear H1
     replace H := Option.bind_eq_some_iff.mp H
     obtain ⟨t122, A390, H⟩ := H
     replace H : ((ledger_entry_sum.f l1_0 a1_1 a1_2 a1_3 a1_4 a1_5 a1_6).bind fun bt123 => ((ledger_entry_sum.f l2_0 a2_1 a2_2 a2_3 a2_4 a2_5 a2_6).bind fun bt125 => ((wide_Add.f bt123.1 bt123.2 bt125.1 bt125.2).bind fun bt127 => ((wide_Add.f a1_4 a1_5 a2_4 a2_5).bind fun bt129 => (ledger_way_both_f15.l0 kj4 (l1_0.length : Int) 0 l1_0 a1_1 a1_2 a1_3 a1_4 a1_5 a1_6 l2_0 a2_1 a2_2 a2_3 a2_4 a2_5 a2_6 ([] : List Int) t122 bt127.1 bt127.2 bt129.1 bt129.2 false))))) = some (r1, r2, r3, r4, r5, r6, r7, r8) := H
     have A39 := Aside0.mk A390
     clear A390
     replace H := Option.bind_eq_some_iff.mp H
     obtain ⟨⟨t123, t124⟩, A400, H⟩ := H
     replace H : ((ledger_entry_sum.f l2_0 a2_1 a2_2 a2_3 a2_4 a2_5 a2_6).bind fun bt125 => ((wide_Add.f t123 t124 bt125.1 bt125.2).bind fun bt127 => ((wide_Add.f a1_4 a1_5 a2_4 a2_5).bind fun bt129 => (ledger_way_both_f15.l0 kj4 (l1_0.length : Int) 0 l1_0 a1_1 a1_2 a1_3 a1_4 a1_5 a1_6 l2_0 a2_1 a2_2 a2_3 a2_4 a2_5 a2_6 ([] : List Int) t122 bt127.1 bt127.2 bt129.1 bt129.2 false)))) = some (r1, r2, r3, r4, r5, r6, r7, r8) := H
     have A40 := Aside0.mk A400
     clear A400
     replace H := Option.bind_eq_some_iff.mp H
     obtain ⟨⟨t125, t126⟩, A410, H⟩ := H
     replace H : ((wide_Add.f t123 t124 t125 t126).bind fun bt127 => ((wide_Add.f a1_4 a1_5 a2_4 a2_5).bind fun bt129 => (ledger_way_both_f15.l0 kj4 (l1_0.length : Int) 0 l1_0 a1_1 a1_2 a1_3 a1_4 a1_5 a1_6 l2_0 a2_1 a2_2 a2_3 a2_4 a2_5 a2_6 ([] : List Int) t122 bt127.1 bt127.2 bt129.1 bt129.2 false))) = some (r1, r2, r3, r4, r5, r6, r7, r8) := H
     have A41 := Aside0.mk A410
     clear A410
     replace H := Option.bind_eq_some_iff.mp H
     obtain ⟨⟨t127, t128⟩, A420, H⟩ := H
     replace H : ((wide_Add.f a1_4 a1_5 a2_4 a2_5).bind fun bt129 => (ledger_way_both_f15.l0 kj4 (l1_0.length : Int) 0 l1_0 a1_1 a1_2 a1_3 a1_4 a1_5 a1_6 l2_0 a2_1 a2_2 a2_3 a2_4 a2_5 a2_6 ([] : List Int) t122 t127 t128 bt129.1 bt129.2 false)) = some (r1, r2, r3, r4, r5, r6, r7, r8) := H
     have A42 := Aside0.mk A420
     clear A420
     replace H := Option.bind_eq_some_iff.mp H
     obtain ⟨⟨t129, t130⟩, A430, H⟩ := H
     replace H : (ledger_way_both_f15.l0 kj4 (l1_0.length : Int) 0 l1_0 a1_1 a1_2 a1_3 a1_4 a1_5 a1_6 l2_0 a2_1 a2_2 a2_3 a2_4 a2_5 a2_6 ([] : List Int) t122 t127 t128 t129 t130 false) = some (r1, r2, r3, r4, r5, r6, r7, r8) := H
     have A43 := Aside0.mk A430
     clear A430
     have H' := Aside0.mk H
     clear H
     try go_wp2
     have n0_ := Aside0.mk (blk_drew BK116.out)
     have n1_ := Aside0.mk (blk_drew BK117.out)
     have n2_ := Aside0.mk (blk_drew BK118.out)
     have n3_ := Aside0.mk (blk_drew BK119.out)
     have n4_ := Aside0.mk (below_drew1 HB.out)
     clear BK116
     clear BK117
     clear BK118
     clear BK119
     clear HB
     have BK116 := n0_
     have BK117 := n1_
     have BK118 := n2_
     have BK119 := n3_
     have HB := n4_
     clear n0_ n1_ n2_ n3_ n4_
     refine start_ (n := 29) (S := fun w' => True) (ds := []) #[F, F, F, F, F, F, F, F, F, F, F, F, F, F, F, F, F, F, F, F, F, F, F, F, F, F, F, F, F] (by kernel_rfl) rfl rfl trivial (fun hHeld => ?_); refine with_tabW ledger_way_both_f15.tab5 ledger_way_both_f15.bits5 (fun HT_ HW_ => ?_)
     generalize wc.drew = w44 at BK116 BK117 BK118 BK119 HB hHeld ⊢
     refine pure_ (i := 0) (N := some 29) (v := ?_) (a' := ?_) #[T, F, F, F, F, F, F, F, F, F, F, F, F, F, F, F, F, F, F, F, F, F, F, F, F, F, F, F, F] rfl rfl (any_of HT_.out (by kernel_rfl)) (fun _ _ _ h => h) (Or.inl ⟨by rfl, ?_⟩) ?_ ?_
     rotate_left
     ·
      intro w'
      go_simp
      with_reducible rfl
     rotate_left
     ·
      simp only [Act.put, List.setIfInBounds_toArray, List.set_cons_zero, List.set_cons_succ, i64_w, i32_w]
      rfl
     refine pure_ (i := 2) (N := some 31) (v := ?_) (a' := ?_) #[T, F, T, F, F, F, F, F, F, F, F, F, F, F, F, F, F, F, F, F, F, F, F, F, F, F, F, F, F] rfl rfl (any_of HT_.out (by kernel_rfl)) (fun _ _ _ h => h) (Or.inl ⟨by rfl, ?_⟩) ?_ ?_
     rotate_left
     ·
      intro w'
      go_simp
      with_reducible rfl
     rotate_left
     ·
      simp only [Act.put, List.setIfInBounds_toArray, List.set_cons_zero, List.set_cons_succ, i64_w, i32_w]
      rfl
     refine pure_ (i := 3) (N := some 32) (v := ?_) (a' := ?_) #[T, F, T, T, F, F, F, F, F, F, F, F, F, F, F, F, F, F, F, F, F, F, F, F, F, F, F, F, F] rfl rfl (any_of HT_.out (by kernel_rfl)) (fun _ _ _ h => h) (Or.inl ⟨by rfl, ?_⟩) ?_ ?_
     rotate_left
     ·
      intro w'
      go_simp
      with_reducible rfl
     rotate_left
     ·
      simp only [Act.put, List.setIfInBounds_toArray, List.set_cons_zero, List.set_cons_succ, i64_w, i32_w]
      rfl
     refine pure_ (i := 5) (N := some 34) (v := ?_) (a' := ?_) #[T, F, T, T, F, T, F, F, F, F, F, F, F, F, F, F, F, F, F, F, F, F, F, F, F, F, F, F, F] rfl rfl (any_of HT_.out (by kernel_rfl)) (fun _ _ _ h => h) (Or.inl ⟨by rfl, ?_⟩) ?_ ?_
     rotate_left
     ·
      intro w'
      go_simp
      with_reducible rfl
     rotate_left
     ·
      simp only [Act.put, List.setIfInBounds_toArray, List.set_cons_zero, List.set_cons_succ, i64_w, i32_w]
      rfl
     refine pure_ (i := 6) (N := some 35) (v := ?_) (a' := ?_) #[T, F, T, T, F, T, T, F, F, F, F, F, F, F, F, F, F, F, F, F, F, F, F, F, F, F, F, F, F] rfl rfl (any_of HT_.out (by kernel_rfl)) (fun _ _ _ h => h) (Or.inl ⟨by rfl, ?_⟩) ?_ ?_
     rotate_left
     ·
      intro w'
      go_simp
      with_reducible rfl
     rotate_left
     ·
      simp only [Act.put, List.setIfInBounds_toArray, List.set_cons_zero, List.set_cons_succ, i64_w, i32_w]
      rfl
     refine pure_ (i := 9) (N := some 38) (v := ?_) (a' := ?_) #[T, F, T, T, F, T, T, F, F, T, F, F, F, F, F, F, F, F, F, F, F, F, F, F, F, F, F, F, F] rfl rfl (any_of HT_.out (by kernel_rfl)) (fun _ _ _ h => h) (Or.inl ⟨by rfl, ?_⟩) ?_ ?_
     rotate_left
     ·
      intro w'
      go_simp
      with_reducible rfl
     rotate_left
     ·
      simp only [Act.put, List.setIfInBounds_toArray, List.set_cons_zero, List.set_cons_succ, i64_w, i32_w]
      rfl
     refine pure_ (i := 16) (N := some 45) (v := ?_) (a' := ?_) #[T, F, T, T, F, T, T, F, F, T, F, F, F, F, F, F, T, F, F, F, F, F, F, F, F, F, F, F, F] rfl rfl (any_of HT_.out (by kernel_rfl)) (fun _ _ _ h => h) (Or.inl ⟨by rfl, ?_⟩) ?_ ?_
     rotate_left
     ·
      intro w'
      go_simp
      with_reducible rfl
     rotate_left
     ·
      simp only [Act.put, List.setIfInBounds_toArray, List.set_cons_zero, List.set_cons_succ, i64_w, i32_w]
      rfl
     refine pure_ (i := 18) (N := some 47) (v := ?_) (a' := ?_) #[T, F, T, T, F, T, T, F, F, T, F, F, F, F, F, F, T, F, T, F, F, F, F, F, F, F, F, F, F] rfl rfl (any_of HT_.out (by kernel_rfl)) (fun _ _ _ h => h) (Or.inl ⟨by rfl, ?_⟩) ?_ ?_
     rotate_left
     ·
      intro w'
      go_simp
      with_reducible rfl
     rotate_left
     ·
      simp only [Act.put, List.setIfInBounds_toArray, List.set_cons_zero, List.set_cons_succ, i64_w, i32_w]
      rfl
     refine pure_ (i := 19) (N := some 48) (v := ?_) (a' := ?_) #[T, F, T, T, F, T, T, F, F, T, F, F, F, F, F, F, T, F, T, T, F, F, F, F, F, F, F, F, F] rfl rfl (any_of HT_.out (by kernel_rfl)) (fun _ _ _ h => h) (Or.inl ⟨by rfl, ?_⟩) ?_ ?_
     rotate_left
     ·
      intro w'
      go_simp
      with_reducible rfl
     rotate_left
     ·
      simp only [Act.put, List.setIfInBounds_toArray, List.set_cons_zero, List.set_cons_succ, i64_w, i32_w]
      rfl
     refine pure_ (i := 21) (N := some 50) (v := ?_) (a' := ?_) #[T, F, T, T, F, T, T, F, F, T, F, F, F, F, F, F, T, F, T, T, F, T, F, F, F, F, F, F, F] rfl rfl (any_of HT_.out (by kernel_rfl)) (fun _ _ _ h => h) (Or.inl ⟨by rfl, ?_⟩) ?_ ?_
     rotate_left
     ·
      intro w'
      go_simp
      with_reducible rfl
     rotate_left
     ·
      simp only [Act.put, List.setIfInBounds_toArray, List.set_cons_zero, List.set_cons_succ, i64_w, i32_w]
      rfl
     refine pure_ (i := 22) (N := some 51) (v := ?_) (a' := ?_) #[T, F, T, T, F, T, T, F, F, T, F, F, F, F, F, F, T, F, T, T, F, T, T, F, F, F, F, F, F] rfl rfl (any_of HT_.out (by kernel_rfl)) (fun _ _ _ h => h) (Or.inl ⟨by rfl, ?_⟩) ?_ ?_
     rotate_left
     ·
      intro w'
      go_simp
      with_reducible rfl
     rotate_left
     ·
      simp only [Act.put, List.setIfInBounds_toArray, List.set_cons_zero, List.set_cons_succ, i64_w, i32_w]
      rfl
     refine inv_at [1, 4, 7, 8, 10, 11, 12, 13, 14, 15, 17, 20, 23, 24, 25, 26, 27, 28] (fun a0_ b a w' => ∃ (gb131 : Nat) (m27_ : Value), a = putSel a0_ b [(1, 30, .func (.func 15) #[] #[]), (4, 33, .int .i64 a1_1), (7, 36, .int .i64 a2_1), (8, 37, .int .i64 t122), (10, 39, .func (.func 16) #[] #[]), (11, 40, .agg #[.slice A1_0 l1_0.length c1_0, .int .i64 a1_1, .int .u64 a1_2, .int .u64 a1_3, .int .u64 a1_4, .int .u64 a1_5, .bool a1_6]), (12, 41, .agg #[.int .u64 t123, .int .u64 t124]), (13, 42, .agg #[.slice A2_0 l2_0.length c2_0, .int .i64 a2_1, .int .u64 a2_2, .int .u64 a2_3, .int .u64 a2_4, .int .u64 a2_5, .bool a2_6]), (14, 43, .agg #[.int .u64 t125, .int .u64 t126]), (15, 44, .agg #[.int .u64 t127, .int .u64 t128]), (17, 46, .func (.func 16) #[] #[]), (20, 49, .agg #[.int .u64 a1_4, .int .u64 a1_5]), (23, 52, .agg #[.int .u64 a2_4, .int .u64 a2_5]), (24, 53, .agg #[.int .u64 t129, .int .u64 t130]), (25, 54, .agg #[.slice none 0 0, .int .i64 t122, .int .u64 t127, .int .u64 t128, .int .u64 t129, .int .u64 t130, .bool false]), (26, 55, .agg #[.slice none 0 0, .int .i64 t122, .int .u64 t127, .int .u64 t128, .int .u64 t129, .int .u64 t130, .bool false]), (27, 8, m27_)] ∧ (w'.heap[gb116]? = some (.cells #[.func (.func 15) #[] #[], .func (.func 16) #[] #[]] 45 (0, 0))) ∧ (w'.heap[gb117]? = some (.cells #[.slice A1_0 l1_0.length c1_0, .int .i64 a1_1, .int .u64 a1_2, .int .u64 a1_3, .int .u64 a1_4, .int .u64 a1_5, .bool a1_6] 48 (0, 0))) ∧ (w'.heap[gb118]? = some (.cells #[.slice A2_0 l2_0.length c2_0, .int .i64 a2_1, .int .u64 a2_2, .int .u64 a2_3, .int .u64 a2_4, .int .u64 a2_5, .bool a2_6] 48 (0, 0))) ∧ (w'.heap[gb119]? = some (.cells #[.slice none 0 0, .int .i64 0, .int .u64 0, .int .u64 0, .int .u64 0, .int .u64 0, .bool false] 27 (0, 0))) ∧ (Below w.heap.size w w') ∧ (b 27 = true → b 28 = false → w'.heap[gb131]? = some (.cells #[.slice none 0 0, .int .i64 0, .int .u64 0, .int .u64 0, .int .u64 0, .int .u64 0, .bool false] 48 (0, 0))) ∧ (b 27 = true → w.heap.size ≤ gb131) ∧ (b 27 = true → w.heap.size ≤ gb131) ∧ (b 27 = true → gb116 ≠ gb131) ∧ (b 27 = true → gb131 ≠ gb116) ∧ (b 27 = true → gb117 ≠ gb131) ∧ (b 27 = true → gb131 ≠ gb117) ∧ (b 27 = true → gb118 ≠ gb131) ∧ (b 27 = true → gb131 ≠ gb118) ∧ (b 27 = true → gb119 ≠ gb131) ∧ (b 27 = true → gb131 ≠ gb119) ∧ (b 28 = true → w'.heap[gb131]? = some (.cells #[.slice none 0 0, .int .i64 t122, .int .u64 t127, .int .u64 t128, .int .u64 t129, .int .u64 t130, .bool false] 48 (0, 0))) ∧ (b 27 = true → (m27_ : Value) = .pointer (some ⟨gb131, 0, none⟩))) HT_.out HW_.out (by kernel_rfl) (by kernel_rfl) ?_ ?_ ?_
     ·
      exact ⟨0, .bool false, by simp only [putSel, Bool.false_eq_true, if_false], BK116.out, BK117.out, BK118.out, BK119.out, HB.out, fun h_ => absurd h_ (by decide), fun h_ => absurd h_ (by decide), fun h_ => absurd h_ (by decide), fun h_ => absurd h_ (by decide), fun h_ => absurd h_ (by decide), fun h_ => absurd h_ (by decide), fun h_ => absurd h_ (by decide), fun h_ => absurd h_ (by decide), fun h_ => absurd h_ (by decide), fun h_ => absurd h_ (by decide), fun h_ => absurd h_ (by decide), fun h_ => absurd h_ (by decide), fun h_ => absurd h_ (by decide)⟩
     ·
      skip
      clear BK116 BK117 BK118 BK119 HB
      refine steps_cons ?_ ?_
      ·
       rintro b a w' ⟨gb131, m27_, ha, Q_BK116, Q_BK117, Q_BK118, Q_BK119, Q_HB, Q_BK131, Q_GW131, Q_GE131, Q_NB116_131, Q_NB131_116, Q_NB117_131, Q_NB131_117, Q_NB118_131, Q_NB131_118, Q_NB119_131, Q_NB131_119, Q_BK131_e28, Q_X27_⟩ hb_ hon hoff
       refine ⟨_, rfl, fun K hK => ?_⟩
       have e29 : a.tmps[29]? = some (.pointer (some ⟨gb116, 0, none⟩)) := by rw [ha]; exact (putSel_off rfl).trans rfl
       replace ha := Aside0.mk ha
       have BK116 := Aside0.mk Q_BK116
       have BK117 := Aside0.mk Q_BK117
       have BK118 := Aside0.mk Q_BK118
       have BK119 := Aside0.mk Q_BK119
       have HB := Aside0.mk Q_HB
       have hc0_ : w'.cell? ⟨gb116, 0, none⟩ = some (.func (.func 15) #[] #[]) := (blk_cell BK116.out 0).trans rfl
       have hc1_ : w'.cell? ⟨gb116, 1, none⟩ = some (.func (.func 16) #[] #[]) := (blk_cell BK116.out 1).trans rfl
       refine value_ (w1 := w') (v := .func (.func 15) #[] #[]) (by rfl) rfl ?_ ?_
       ·
        go_simp
        (try simp only [i64_w])
        try rfl
       refine hK.out _ _ ⟨gb131, m27_, (by rw [ha.out]; exact putSel_upk 0 hb_ rfl rfl rfl), Q_BK116, Q_BK117, Q_BK118, Q_BK119, Q_HB, Q_BK131, Q_GW131, Q_GE131, Q_NB116_131, Q_NB131_116, Q_NB117_131, Q_NB131_117, Q_NB118_131, Q_NB131_118, Q_NB119_131, Q_NB131_119, fun h0_ => absurd ((hoff 28 (by kernel_rfl)).symm.trans h0_) (by decide), Q_X27_⟩
      refine steps_cons ?_ ?_
      ·
       rintro b a w' ⟨gb131, m27_, ha, Q_BK116, Q_BK117, Q_BK118, Q_BK119, Q_HB, Q_BK131, Q_GW131, Q_GE131, Q_NB116_131, Q_NB131_116, Q_NB117_131, Q_NB131_117, Q_NB118_131, Q_NB131_118, Q_NB119_131, Q_NB131_119, Q_BK131_e28, Q_X27_⟩ hb_ hon hoff
       refine ⟨_, rfl, fun K hK => ?_⟩
       have e32 : a.tmps[32]? = some (.pointer (some ⟨gb117, 1, none⟩)) := by rw [ha]; exact (putSel_off rfl).trans rfl
       replace ha := Aside0.mk ha
       have BK116 := Aside0.mk Q_BK116
       have BK117 := Aside0.mk Q_BK117
       have BK118 := Aside0.mk Q_BK118
       have BK119 := Aside0.mk Q_BK119
       have HB := Aside0.mk Q_HB
       have hc0_ : w'.cell? ⟨gb117, 0, none⟩ = some (.slice A1_0 l1_0.length c1_0) := (blk_cell BK117.out 0).trans rfl
       have hc1_ : w'.cell? ⟨gb117, 1, none⟩ = some (.int .i64 a1_1) := (blk_cell BK117.out 1).trans rfl
       have hc2_ : w'.cell? ⟨gb117, 2, none⟩ = some (.int .u64 a1_2) := (blk_cell BK117.out 2).trans rfl
       have hc3_ : w'.cell? ⟨gb117, 3, none⟩ = some (.int .u64 a1_3) := (blk_cell BK117.out 3).trans rfl
       have hc4_ : w'.cell? ⟨gb117, 4, none⟩ = some (.int .u64 a1_4) := (blk_cell BK117.out 4).trans rfl
       have hc5_ : w'.cell? ⟨gb117, 5, none⟩ = some (.int .u64 a1_5) := (blk_cell BK117.out 5).trans rfl
       have hc6_ : w'.cell? ⟨gb117, 6, none⟩ = some (.bool a1_6) := (blk_cell BK117.out 6).trans rfl
       refine value_ (w1 := w') (v := .int .i64 a1_1) (by rfl) rfl ?_ ?_
       ·
        go_simp
        (try simp only [i64_w])
        try rfl
       refine hK.out _ _ ⟨gb131, m27_, (by rw [ha.out]; exact putSel_upk 1 hb_ rfl rfl rfl), Q_BK116, Q_BK117, Q_BK118, Q_BK119, Q_HB, Q_BK131, Q_GW131, Q_GE131, Q_NB116_131, Q_NB131_116, Q_NB117_131, Q_NB131_117, Q_NB118_131, Q_NB131_118, Q_NB119_131, Q_NB131_119, fun h0_ => absurd ((hoff 28 (by kernel_rfl)).symm.trans h0_) (by decide), Q_X27_⟩
      refine steps_cons ?_ ?_
      ·
       rintro b a w' ⟨gb131, m27_, ha, Q_BK116, Q_BK117, Q_BK118, Q_BK119, Q_HB, Q_BK131, Q_GW131, Q_GE131, Q_NB116_131, Q_NB131_116, Q_NB117_131, Q_NB131_117, Q_NB118_131, Q_NB131_118, Q_NB119_131, Q_NB131_119, Q_BK131_e28, Q_X27_⟩ hb_ hon hoff
       refine ⟨_, rfl, fun K hK => ?_⟩
       have e35 : a.tmps[35]? = some (.pointer (some ⟨gb118, 1, none⟩)) := by rw [ha]; exact (putSel_off rfl).trans rfl
       replace ha := Aside0.mk ha
       have BK116 := Aside0.mk Q_BK116
       have BK117 := Aside0.mk Q_BK117
       have BK118 := Aside0.mk Q_BK118
       have BK119 := Aside0.mk Q_BK119
       have HB := Aside0.mk Q_HB
       have hc0_ : w'.cell? ⟨gb118, 0, none⟩ = some (.slice A2_0 l2_0.length c2_0) := (blk_cell BK118.out 0).trans rfl
       have hc1_ : w'.cell? ⟨gb118, 1, none⟩ = some (.int .i64 a2_1) := (blk_cell BK118.out 1).trans rfl
       have hc2_ : w'.cell? ⟨gb118, 2, none⟩ = some (.int .u64 a2_2) := (blk_cell BK118.out 2).trans rfl
       have hc3_ : w'.cell? ⟨gb118, 3, none⟩ = some (.int .u64 a2_3) := (blk_cell BK118.out 3).trans rfl
       have hc4_ : w'.cell? ⟨gb118, 4, none⟩ = some (.int .u64 a2_4) := (blk_cell BK118.out 4).trans rfl
       have hc5_ : w'.cell? ⟨gb118, 5, none⟩ = some (.int .u64 a2_5) := (blk_cell BK118.out 5).trans rfl
       have hc6_ : w'.cell? ⟨gb118, 6, none⟩ = some (.bool a2_6) := (blk_cell BK118.out 6).trans rfl
       refine value_ (w1 := w') (v := .int .i64 a2_1) (by rfl) rfl ?_ ?_
       ·
        go_simp
        (try simp only [i64_w])
        try rfl
       refine hK.out _ _ ⟨gb131, m27_, (by rw [ha.out]; exact putSel_upk 2 hb_ rfl rfl rfl), Q_BK116, Q_BK117, Q_BK118, Q_BK119, Q_HB, Q_BK131, Q_GW131, Q_GE131, Q_NB116_131, Q_NB131_116, Q_NB117_131, Q_NB131_117, Q_NB118_131, Q_NB131_118, Q_NB119_131, Q_NB131_119, fun h0_ => absurd ((hoff 28 (by kernel_rfl)).symm.trans h0_) (by decide), Q_X27_⟩
      refine steps_cons ?_ ?_
      ·
       rintro b a w' ⟨gb131, m27_, ha, Q_BK116, Q_BK117, Q_BK118, Q_BK119, Q_HB, Q_BK131, Q_GW131, Q_GE131, Q_NB116_131, Q_NB131_116, Q_NB117_131, Q_NB131_117, Q_NB118_131, Q_NB131_118, Q_NB119_131, Q_NB131_119, Q_BK131_e28, Q_X27_⟩ hb_ hon hoff
       refine ⟨_, rfl, fun K hK => ?_⟩
       have e30 : a.tmps[30]? = some (.func (.func 15) #[] #[]) := by rw [ha]; exact putSel_on (e := (1, 30, .func (.func 15) #[] #[])) 0 rfl rfl (hon 1 (by kernel_rfl)) rfl
       have e33 : a.tmps[33]? = some (.int .i64 a1_1) := by rw [ha]; exact putSel_on (e := (4, 33, .int .i64 a1_1)) 1 rfl rfl (hon 4 (by kernel_rfl)) rfl
       have e36 : a.tmps[36]? = some (.int .i64 a2_1) := by rw [ha]; exact putSel_on (e := (7, 36, .int .i64 a2_1)) 2 rfl rfl (hon 7 (by kernel_rfl)) rfl
       replace ha := Aside0.mk ha
       have BK116 := Aside0.mk Q_BK116
       have BK117 := Aside0.mk Q_BK117
       have BK118 := Aside0.mk Q_BK118
       have BK119 := Aside0.mk Q_BK119
       have HB := Aside0.mk Q_HB
       refine goesT_ Try.func15 (by kernel_rfl) rfl #[.int .i64 a1_1, .int .i64 a2_1] (by rfl) rfl rfl (by first | rfl | (go_simp; done)) (by first | (simp only [List.map_toArray, List.map_cons, List.map_nil, Act.eval, Array.getD_eq_getD_getElem?, Option.getD_some, e30, e33, e36]; done) | (simp only [List.map_toArray, List.map_cons, List.map_nil, Act.eval, Array.getD_eq_getD_getElem?, Option.getD_some, e30, e33, e36]; rfl)) ?_
       with_reducible refine (ledger_plus.calls a1_1 a2_1 t122 _ A39.out).mono ?_
       rintro e w45 ⟨rfl, hb⟩
       refine ⟨_, rfl, ?_⟩
       have n0_ := ledger_way_both_f15.keepB BK116 hb
       have n1_ := ledger_way_both_f15.keepB BK117 hb
       have n2_ := ledger_way_both_f15.keepB BK118 hb
       have n3_ := ledger_way_both_f15.keepB BK119 hb
       have n4_ := Aside0.mk (below_step (by repeat (first | (with_reducible first | exact HB.out | apply below_alloc | apply pw_below_drewN | apply below_drew1 | refine below_set ?_ GE116.out | refine below_set ?_ GE117.out | refine below_set ?_ GE118.out | refine below_set ?_ GE119.out) | exact HB.out)) hb)
       have z_BK131 := fun (h0_ : b 27 = true) (h1_ : b 28 = false) => (show w45.heap[gb131]? = some (.cells #[.slice none 0 0, .int .i64 0, .int .u64 0, .int .u64 0, .int .u64 0, .int .u64 0, .bool false] 48 (0, 0)) from by first | exact (blk_below (g := gb131) (o := .cells #[.slice none 0 0, .int .i64 0, .int .u64 0, .int .u64 0, .int .u64 0, .int .u64 0, .bool false] 48 (0, 0)) (by (with_reducible repeat (first | refine blk_drewN ?_ _ | refine blk_drew ?_ | refine blk_alloc ?_ _)); exact (Q_BK131 h0_ h1_)) hb))
       clear BK116
       clear BK117
       clear BK118
       clear BK119
       clear HB
       have BK116 := n0_
       have BK117 := n1_
       have BK118 := n2_
       have BK119 := n3_
       have HB := n4_
       clear n0_ n1_ n2_ n3_ n4_
       (try clear hb)
       (try clear hb2)
       (try clear hk)
       (try clear hi)
       refine hK.out _ _ ⟨gb131, m27_, (by rw [ha.out]; exact putSel_upk 3 hb_ rfl rfl rfl), (by (with_reducible repeat (first | refine blk_drewN ?_ _ | refine blk_drew ?_ | refine blk_alloc ?_ _)); exact BK116.out), (by (with_reducible repeat (first | refine blk_drewN ?_ _ | refine blk_drew ?_ | refine blk_alloc ?_ _)); exact BK117.out), (by (with_reducible repeat (first | refine blk_drewN ?_ _ | refine blk_drew ?_ | refine blk_alloc ?_ _)); exact BK118.out), (by (with_reducible repeat (first | refine blk_drewN ?_ _ | refine blk_drew ?_ | refine blk_alloc ?_ _)); exact BK119.out), (by repeat (first | (with_reducible first | exact HB.out | apply below_alloc | apply pw_below_drewN | apply below_drew1 | refine below_set ?_ GE116.out | refine below_set ?_ GE117.out | refine below_set ?_ GE118.out | refine below_set ?_ GE119.out) | exact HB.out)), z_BK131, Q_GW131, Q_GE131, Q_NB116_131, Q_NB131_116, Q_NB117_131, Q_NB131_117, Q_NB118_131, Q_NB131_118, Q_NB119_131, Q_NB131_119, fun h0_ => absurd ((hoff 28 (by kernel_rfl)).symm.trans h0_) (by decide), Q_X27_⟩
      refine steps_cons ?_ ?_
      ·
       rintro b a w' ⟨gb131, m27_, ha, Q_BK116, Q_BK117, Q_BK118, Q_BK119, Q_HB, Q_BK131, Q_GW131, Q_GE131, Q_NB116_131, Q_NB131_116, Q_NB117_131, Q_NB131_117, Q_NB118_131, Q_NB131_118, Q_NB119_131, Q_NB131_119, Q_BK131_e28, Q_X27_⟩ hb_ hon hoff
       refine ⟨_, rfl, fun K hK => ?_⟩
       have e38 : a.tmps[38]? = some (.pointer (some ⟨gb116, 1, none⟩)) := by rw [ha]; exact (putSel_off rfl).trans rfl
       replace ha := Aside0.mk ha
       have BK116 := Aside0.mk Q_BK116
       have BK117 := Aside0.mk Q_BK117
       have BK118 := Aside0.mk Q_BK118
       have BK119 := Aside0.mk Q_BK119
       have HB := Aside0.mk Q_HB
       have hc0_ : w'.cell? ⟨gb116, 0, none⟩ = some (.func (.func 15) #[] #[]) := (blk_cell BK116.out 0).trans rfl
       have hc1_ : w'.cell? ⟨gb116, 1, none⟩ = some (.func (.func 16) #[] #[]) := (blk_cell BK116.out 1).trans rfl
       refine value_ (w1 := w') (v := .func (.func 16) #[] #[]) (by rfl) rfl ?_ ?_
       ·
        go_simp
        (try simp only [i64_w])
        try rfl
       refine hK.out _ _ ⟨gb131, m27_, (by rw [ha.out]; exact putSel_upk 4 hb_ rfl rfl rfl), Q_BK116, Q_BK117, Q_BK118, Q_BK119, Q_HB, Q_BK131, Q_GW131, Q_GE131, Q_NB116_131, Q_NB131_116, Q_NB117_131, Q_NB131_117, Q_NB118_131, Q_NB131_118, Q_NB119_131, Q_NB131_119, fun h0_ => absurd ((hoff 28 (by kernel_rfl)).symm.trans h0_) (by decide), Q_X27_⟩
      refine steps_cons ?_ ?_
      ·
       rintro b a w' ⟨gb131, m27_, ha, Q_BK116, Q_BK117, Q_BK118, Q_BK119, Q_HB, Q_BK131, Q_GW131, Q_GE131, Q_NB116_131, Q_NB131_116, Q_NB117_131, Q_NB131_117, Q_NB118_131, Q_NB131_118, Q_NB119_131, Q_NB131_119, Q_BK131_e28, Q_X27_⟩ hb_ hon hoff
       refine ⟨_, rfl, fun K hK => ?_⟩
       have e4 : a.tmps[4]? = some (.pointer (some ⟨gb117, 0, none⟩)) := by rw [ha]; exact (putSel_off rfl).trans rfl
       replace ha := Aside0.mk ha
       have BK116 := Aside0.mk Q_BK116
       have BK117 := Aside0.mk Q_BK117
       have BK118 := Aside0.mk Q_BK118
       have BK119 := Aside0.mk Q_BK119
       have HB := Aside0.mk Q_HB
       have hc0_ : w'.cell? ⟨gb117, 0, none⟩ = some (.slice A1_0 l1_0.length c1_0) := (blk_cell BK117.out 0).trans rfl
       have hc1_ : w'.cell? ⟨gb117, 1, none⟩ = some (.int .i64 a1_1) := (blk_cell BK117.out 1).trans rfl
       have hc2_ : w'.cell? ⟨gb117, 2, none⟩ = some (.int .u64 a1_2) := (blk_cell BK117.out 2).trans rfl
       have hc3_ : w'.cell? ⟨gb117, 3, none⟩ = some (.int .u64 a1_3) := (blk_cell BK117.out 3).trans rfl
       have hc4_ : w'.cell? ⟨gb117, 4, none⟩ = some (.int .u64 a1_4) := (blk_cell BK117.out 4).trans rfl
       have hc5_ : w'.cell? ⟨gb117, 5, none⟩ = some (.int .u64 a1_5) := (blk_cell BK117.out 5).trans rfl
       have hc6_ : w'.cell? ⟨gb117, 6, none⟩ = some (.bool a1_6) := (blk_cell BK117.out 6).trans rfl
       refine value_ (w1 := w') (v := .agg #[.slice A1_0 l1_0.length c1_0, .int .i64 a1_1, .int .u64 a1_2, .int .u64 a1_3, .int .u64 a1_4, .int .u64 a1_5, .bool a1_6]) (by rfl) rfl ?_ ?_
       ·
        go_simp
        (try simp only [i64_w])
        try rfl
       refine hK.out _ _ ⟨gb131, m27_, (by rw [ha.out]; exact putSel_upk 5 hb_ rfl rfl rfl), Q_BK116, Q_BK117, Q_BK118, Q_BK119, Q_HB, Q_BK131, Q_GW131, Q_GE131, Q_NB116_131, Q_NB131_116, Q_NB117_131, Q_NB131_117, Q_NB118_131, Q_NB131_118, Q_NB119_131, Q_NB131_119, fun h0_ => absurd ((hoff 28 (by kernel_rfl)).symm.trans h0_) (by decide), Q_X27_⟩
      refine steps_cons ?_ ?_
      ·
       rintro b a w' ⟨gb131, m27_, ha, Q_BK116, Q_BK117, Q_BK118, Q_BK119, Q_HB, Q_BK131, Q_GW131, Q_GE131, Q_NB116_131, Q_NB131_116, Q_NB117_131, Q_NB131_117, Q_NB118_131, Q_NB131_118, Q_NB119_131, Q_NB131_119, Q_BK131_e28, Q_X27_⟩ hb_ hon hoff
       refine ⟨_, rfl, fun K hK => ?_⟩
       have e40 : a.tmps[40]? = some (.agg #[.slice A1_0 l1_0.length c1_0, .int .i64 a1_1, .int .u64 a1_2, .int .u64 a1_3, .int .u64 a1_4, .int .u64 a1_5, .bool a1_6]) := by rw [ha]; exact putSel_on (e := (11, 40, .agg #[.slice A1_0 l1_0.length c1_0, .int .i64 a1_1, .int .u64 a1_2, .int .u64 a1_3, .int .u64 a1_4, .int .u64 a1_5, .bool a1_6])) 5 rfl rfl (hon 11 (by kernel_rfl)) rfl
       replace ha := Aside0.mk ha
       have BK116 := Aside0.mk Q_BK116
       have BK117 := Aside0.mk Q_BK117
       have BK118 := Aside0.mk Q_BK118
       have BK119 := Aside0.mk Q_BK119
       have HB := Aside0.mk Q_HB
       refine goes_ Try.func32 (by kernel_rfl) rfl #[.agg #[.slice A1_0 l1_0.length c1_0, .int .i64 a1_1, .int .u64 a1_2, .int .u64 a1_3, .int .u64 a1_4, .int .u64 a1_5, .bool a1_6]] (by rfl) rfl rfl (by first | (simp only [List.map_toArray, List.map_cons, List.map_nil, Act.eval, Array.getD_eq_getD_getElem?, Option.getD_some, e40]; done) | (simp only [List.map_toArray, List.map_cons, List.map_nil, Act.eval, Array.getD_eq_getD_getElem?, Option.getD_some, e40]; rfl)) ?_
       with_reducible refine (ledger_entry_sum.calls _ _ l1_0 a1_1 a1_2 a1_3 a1_4 a1_5 a1_6 t123 t124 _ ?side1 ?side2 A40.out).mono ?_
       (case side1 => repeat (first | exact (Kd.C_below HR1_0.out HB.out) | (with_reducible refine Kd.C_alloc ?_ _) | (with_reducible refine Kd.C_drewN ?_ _) | (with_reducible refine Kd.C_drew ?_)))
       (case side2 => exact HC1_0.out)
       rintro e w47 ⟨rfl, hb⟩
       refine ⟨_, rfl, ?_⟩
       have n0_ := ledger_way_both_f15.keepB BK116 hb
       have n1_ := ledger_way_both_f15.keepB BK117 hb
       have n2_ := ledger_way_both_f15.keepB BK118 hb
       have n3_ := ledger_way_both_f15.keepB BK119 hb
       have n4_ := Aside0.mk (below_step (by repeat (first | (with_reducible first | exact HB.out | apply below_alloc | apply pw_below_drewN | apply below_drew1 | refine below_set ?_ GE116.out | refine below_set ?_ GE117.out | refine below_set ?_ GE118.out | refine below_set ?_ GE119.out) | exact HB.out)) hb)
       have z_BK131 := fun (h0_ : b 27 = true) (h1_ : b 28 = false) => (show w47.heap[gb131]? = some (.cells #[.slice none 0 0, .int .i64 0, .int .u64 0, .int .u64 0, .int .u64 0, .int .u64 0, .bool false] 48 (0, 0)) from by first | exact (blk_below (g := gb131) (o := .cells #[.slice none 0 0, .int .i64 0, .int .u64 0, .int .u64 0, .int .u64 0, .int .u64 0, .bool false] 48 (0, 0)) (by (with_reducible repeat (first | refine blk_drewN ?_ _ | refine blk_drew ?_ | refine blk_alloc ?_ _)); exact (Q_BK131 h0_ h1_)) hb))
       clear BK116
       clear BK117
       clear BK118
       clear BK119
       clear HB
       have BK116 := n0_
       have BK117 := n1_
       have BK118 := n2_
       have BK119 := n3_
       have HB := n4_
       clear n0_ n1_ n2_ n3_ n4_
       (try clear hb)
       (try clear hb2)
       (try clear hk)
       (try clear hi)
       refine hK.out _ _ ⟨gb131, m27_, (by rw [ha.out]; exact putSel_upk 6 hb_ rfl rfl rfl), (by (with_reducible repeat (first | refine blk_drewN ?_ _ | refine blk_drew ?_ | refine blk_alloc ?_ _)); exact BK116.out), (by (with_reducible repeat (first | refine blk_drewN ?_ _ | refine blk_drew ?_ | refine blk_alloc ?_ _)); exact BK117.out), (by (with_reducible repeat (first | refine blk_drewN ?_ _ | refine blk_drew ?_ | refine blk_alloc ?_ _)); exact BK118.out), (by (with_reducible repeat (first | refine blk_drewN ?_ _ | refine blk_drew ?_ | refine blk_alloc ?_ _)); exact BK119.out), (by repeat (first | (with_reducible first | exact HB.out | apply below_alloc | apply pw_below_drewN | apply below_drew1 | refine below_set ?_ GE116.out | refine below_set ?_ GE117.out | refine below_set ?_ GE118.out | refine below_set ?_ GE119.out) | exact HB.out)), z_BK131, Q_GW131, Q_GE131, Q_NB116_131, Q_NB131_116, Q_NB117_131, Q_NB131_117, Q_NB118_131, Q_NB131_118, Q_NB119_131, Q_NB131_119, fun h0_ => absurd ((hoff 28 (by kernel_rfl)).symm.trans h0_) (by decide), Q_X27_⟩
      refine steps_cons ?_ ?_
      ·
       rintro b a w' ⟨gb131, m27_, ha, Q_BK116, Q_BK117, Q_BK118, Q_BK119, Q_HB, Q_BK131, Q_GW131, Q_GE131, Q_NB116_131, Q_NB131_116, Q_NB117_131, Q_NB131_117, Q_NB118_131, Q_NB131_118, Q_NB119_131, Q_NB131_119, Q_BK131_e28, Q_X27_⟩ hb_ hon hoff
       refine ⟨_, rfl, fun K hK => ?_⟩
       have e5 : a.tmps[5]? = some (.pointer (some ⟨gb118, 0, none⟩)) := by rw [ha]; exact (putSel_off rfl).trans rfl
       replace ha := Aside0.mk ha
       have BK116 := Aside0.mk Q_BK116
       have BK117 := Aside0.mk Q_BK117
       have BK118 := Aside0.mk Q_BK118
       have BK119 := Aside0.mk Q_BK119
       have HB := Aside0.mk Q_HB
       have hc0_ : w'.cell? ⟨gb118, 0, none⟩ = some (.slice A2_0 l2_0.length c2_0) := (blk_cell BK118.out 0).trans rfl
       have hc1_ : w'.cell? ⟨gb118, 1, none⟩ = some (.int .i64 a2_1) := (blk_cell BK118.out 1).trans rfl
       have hc2_ : w'.cell? ⟨gb118, 2, none⟩ = some (.int .u64 a2_2) := (blk_cell BK118.out 2).trans rfl
       have hc3_ : w'.cell? ⟨gb118, 3, none⟩ = some (.int .u64 a2_3) := (blk_cell BK118.out 3).trans rfl
       have hc4_ : w'.cell? ⟨gb118, 4, none⟩ = some (.int .u64 a2_4) := (blk_cell BK118.out 4).trans rfl
       have hc5_ : w'.cell? ⟨gb118, 5, none⟩ = some (.int .u64 a2_5) := (blk_cell BK118.out 5).trans rfl
       have hc6_ : w'.cell? ⟨gb118, 6, none⟩ = some (.bool a2_6) := (blk_cell BK118.out 6).trans rfl
       refine value_ (w1 := w') (v := .agg #[.slice A2_0 l2_0.length c2_0, .int .i64 a2_1, .int .u64 a2_2, .int .u64 a2_3, .int .u64 a2_4, .int .u64 a2_5, .bool a2_6]) (by rfl) rfl ?_ ?_
       ·
        go_simp
        (try simp only [i64_w])
        try rfl
       refine hK.out _ _ ⟨gb131, m27_, (by rw [ha.out]; exact putSel_upk 7 hb_ rfl rfl rfl), Q_BK116, Q_BK117, Q_BK118, Q_BK119, Q_HB, Q_BK131, Q_GW131, Q_GE131, Q_NB116_131, Q_NB131_116, Q_NB117_131, Q_NB131_117, Q_NB118_131, Q_NB131_118, Q_NB119_131, Q_NB131_119, fun h0_ => absurd ((hoff 28 (by kernel_rfl)).symm.trans h0_) (by decide), Q_X27_⟩
      refine steps_cons ?_ ?_
      ·
       rintro b a w' ⟨gb131, m27_, ha, Q_BK116, Q_BK117, Q_BK118, Q_BK119, Q_HB, Q_BK131, Q_GW131, Q_GE131, Q_NB116_131, Q_NB131_116, Q_NB117_131, Q_NB131_117, Q_NB118_131, Q_NB131_118, Q_NB119_131, Q_NB131_119, Q_BK131_e28, Q_X27_⟩ hb_ hon hoff
       refine ⟨_, rfl, fun K hK => ?_⟩
       have e42 : a.tmps[42]? = some (.agg #[.slice A2_0 l2_0.length c2_0, .int .i64 a2_1, .int .u64 a2_2, .int .u64 a2_3, .int .u64 a2_4, .int .u64 a2_5, .bool a2_6]) := by rw [ha]; exact putSel_on (e := (13, 42, .agg #[.slice A2_0 l2_0.length c2_0, .int .i64 a2_1, .int .u64 a2_2, .int .u64 a2_3, .int .u64 a2_4, .int .u64 a2_5, .bool a2_6])) 7 rfl rfl (hon 13 (by kernel_rfl)) rfl
       replace ha := Aside0.mk ha
       have BK116 := Aside0.mk Q_BK116
       have BK117 := Aside0.mk Q_BK117
       have BK118 := Aside0.mk Q_BK118
       have BK119 := Aside0.mk Q_BK119
       have HB := Aside0.mk Q_HB
       refine goes_ Try.func32 (by kernel_rfl) rfl #[.agg #[.slice A2_0 l2_0.length c2_0, .int .i64 a2_1, .int .u64 a2_2, .int .u64 a2_3, .int .u64 a2_4, .int .u64 a2_5, .bool a2_6]] (by rfl) rfl rfl (by first | (simp only [List.map_toArray, List.map_cons, List.map_nil, Act.eval, Array.getD_eq_getD_getElem?, Option.getD_some, e42]; done) | (simp only [List.map_toArray, List.map_cons, List.map_nil, Act.eval, Array.getD_eq_getD_getElem?, Option.getD_some, e42]; rfl)) ?_
       with_reducible refine (ledger_entry_sum.calls _ _ l2_0 a2_1 a2_2 a2_3 a2_4 a2_5 a2_6 t125 t126 _ ?side1 ?side2 A41.out).mono ?_
       (case side1 => repeat (first | exact (Kd.C_below HR2_0.out HB.out) | (with_reducible refine Kd.C_alloc ?_ _) | (with_reducible refine Kd.C_drewN ?_ _) | (with_reducible refine Kd.C_drew ?_)))
       (case side2 => exact HC2_0.out)
       rintro e w48 ⟨rfl, hb⟩
       refine ⟨_, rfl, ?_⟩
       have n0_ := ledger_way_both_f15.keepB BK116 hb
       have n1_ := ledger_way_both_f15.keepB BK117 hb
       have n2_ := ledger_way_both_f15.keepB BK118 hb
       have n3_ := ledger_way_both_f15.keepB BK119 hb
       have n4_ := Aside0.mk (below_step (by repeat (first | (with_reducible first | exact HB.out | apply below_alloc | apply pw_below_drewN | apply below_drew1 | refine below_set ?_ GE116.out | refine below_set ?_ GE117.out | refine below_set ?_ GE118.out | refine below_set ?_ GE119.out) | exact HB.out)) hb)
       have z_BK131 := fun (h0_ : b 27 = true) (h1_ : b 28 = false) => (show w48.heap[gb131]? = some (.cells #[.slice none 0 0, .int .i64 0, .int .u64 0, .int .u64 0, .int .u64 0, .int .u64 0, .bool false] 48 (0, 0)) from by first | exact (blk_below (g := gb131) (o := .cells #[.slice none 0 0, .int .i64 0, .int .u64 0, .int .u64 0, .int .u64 0, .int .u64 0, .bool false] 48 (0, 0)) (by (with_reducible repeat (first | refine blk_drewN ?_ _ | refine blk_drew ?_ | refine blk_alloc ?_ _)); exact (Q_BK131 h0_ h1_)) hb))
       clear BK116
       clear BK117
       clear BK118
       clear BK119
       clear HB
       have BK116 := n0_
       have BK117 := n1_
       have BK118 := n2_
       have BK119 := n3_
       have HB := n4_
       clear n0_ n1_ n2_ n3_ n4_
       (try clear hb)
       (try clear hb2)
       (try clear hk)
       (try clear hi)
       refine hK.out _ _ ⟨gb131, m27_, (by rw [ha.out]; exact putSel_upk 8 hb_ rfl rfl rfl), (by (with_reducible repeat (first | refine blk_drewN ?_ _ | refine blk_drew ?_ | refine blk_alloc ?_ _)); exact BK116.out), (by (with_reducible repeat (first | refine blk_drewN ?_ _ | refine blk_drew ?_ | refine blk_alloc ?_ _)); exact BK117.out), (by (with_reducible repeat (first | refine blk_drewN ?_ _ | refine blk_drew ?_ | refine blk_alloc ?_ _)); exact BK118.out), (by (with_reducible repeat (first | refine blk_drewN ?_ _ | refine blk_drew ?_ | refine blk_alloc ?_ _)); exact BK119.out), (by repeat (first | (with_reducible first | exact HB.out | apply below_alloc | apply pw_below_drewN | apply below_drew1 | refine below_set ?_ GE116.out | refine below_set ?_ GE117.out | refine below_set ?_ GE118.out | refine below_set ?_ GE119.out) | exact HB.out)), z_BK131, Q_GW131, Q_GE131, Q_NB116_131, Q_NB131_116, Q_NB117_131, Q_NB131_117, Q_NB118_131, Q_NB131_118, Q_NB119_131, Q_NB131_119, fun h0_ => absurd ((hoff 28 (by kernel_rfl)).symm.trans h0_) (by decide), Q_X27_⟩
      refine steps_cons ?_ ?_
      ·
       rintro b a w' ⟨gb131, m27_, ha, Q_BK116, Q_BK117, Q_BK118, Q_BK119, Q_HB, Q_BK131, Q_GW131, Q_GE131, Q_NB116_131, Q_NB131_116, Q_NB117_131, Q_NB131_117, Q_NB118_131, Q_NB131_118, Q_NB119_131, Q_NB131_119, Q_BK131_e28, Q_X27_⟩ hb_ hon hoff
       refine ⟨_, rfl, fun K hK => ?_⟩
       have e39 : a.tmps[39]? = some (.func (.func 16) #[] #[]) := by rw [ha]; exact putSel_on (e := (10, 39, .func (.func 16) #[] #[])) 4 rfl rfl (hon 10 (by kernel_rfl)) rfl
       have e41 : a.tmps[41]? = some (.agg #[.int .u64 t123, .int .u64 t124]) := by rw [ha]; exact putSel_on (e := (12, 41, .agg #[.int .u64 t123, .int .u64 t124])) 6 rfl rfl (hon 12 (by kernel_rfl)) rfl
       have e43 : a.tmps[43]? = some (.agg #[.int .u64 t125, .int .u64 t126]) := by rw [ha]; exact putSel_on (e := (14, 43, .agg #[.int .u64 t125, .int .u64 t126])) 8 rfl rfl (hon 14 (by kernel_rfl)) rfl
       replace ha := Aside0.mk ha
       have BK116 := Aside0.mk Q_BK116
       have BK117 := Aside0.mk Q_BK117
       have BK118 := Aside0.mk Q_BK118
       have BK119 := Aside0.mk Q_BK119
       have HB := Aside0.mk Q_HB
       refine goesT_ Try.func16 (by kernel_rfl) rfl #[.agg #[.int .u64 t123, .int .u64 t124], .agg #[.int .u64 t125, .int .u64 t126]] (by rfl) rfl rfl (by first | rfl | (go_simp; done)) (by first | (simp only [List.map_toArray, List.map_cons, List.map_nil, Act.eval, Array.getD_eq_getD_getElem?, Option.getD_some, e39, e41, e43]; done) | (simp only [List.map_toArray, List.map_cons, List.map_nil, Act.eval, Array.getD_eq_getD_getElem?, Option.getD_some, e39, e41, e43]; rfl)) ?_
       with_reducible refine (wide_Add.calls t123 t124 t125 t126 t127 t128 _ A42.out).mono ?_
       rintro e w49 ⟨rfl, hb⟩
       refine ⟨_, rfl, ?_⟩
       have n0_ := ledger_way_both_f15.keepB BK116 hb
       have n1_ := ledger_way_both_f15.keepB BK117 hb
       have n2_ := ledger_way_both_f15.keepB BK118 hb
       have n3_ := ledger_way_both_f15.keepB BK119 hb
       have n4_ := Aside0.mk (below_step (by repeat (first | (with_reducible first | exact HB.out | apply below_alloc | apply pw_below_drewN | apply below_drew1 | refine below_set ?_ GE116.out | refine below_set ?_ GE117.out | refine below_set ?_ GE118.out | refine below_set ?_ GE119.out) | exact HB.out)) hb)
       have z_BK131 := fun (h0_ : b 27 = true) (h1_ : b 28 = false) => (show w49.heap[gb131]? = some (.cells #[.slice none 0 0, .int .i64 0, .int .u64 0, .int .u64 0, .int .u64 0, .int .u64 0, .bool false] 48 (0, 0)) from by first | exact (blk_below (g := gb131) (o := .cells #[.slice none 0 0, .int .i64 0, .int .u64 0, .int .u64 0, .int .u64 0, .int .u64 0, .bool false] 48 (0, 0)) (by (with_reducible repeat (first | refine blk_drewN ?_ _ | refine blk_drew ?_ | refine blk_alloc ?_ _)); exact (Q_BK131 h0_ h1_)) hb))
       clear BK116
       clear BK117
       clear BK118
       clear BK119
       clear HB
       have BK116 := n0_
       have BK117 := n1_
       have BK118 := n2_
       have BK119 := n3_
       have HB := n4_
       clear n0_ n1_ n2_ n3_ n4_
       (try clear hb)
       (try clear hb2)
       (try clear hk)
       (try clear hi)
       refine hK.out _ _ ⟨gb131, m27_, (by rw [ha.out]; exact putSel_upk 9 hb_ rfl rfl rfl), (by (with_reducible repeat (first | refine blk_drewN ?_ _ | refine blk_drew ?_ | refine blk_alloc ?_ _)); exact BK116.out), (by (with_reducible repeat (first | refine blk_drewN ?_ _ | refine blk_drew ?_ | refine blk_alloc ?_ _)); exact BK117.out), (by (with_reducible repeat (first | refine blk_drewN ?_ _ | refine blk_drew ?_ | refine blk_alloc ?_ _)); exact BK118.out), (by (with_reducible repeat (first | refine blk_drewN ?_ _ | refine blk_drew ?_ | refine blk_alloc ?_ _)); exact BK119.out), (by repeat (first | (with_reducible first | exact HB.out | apply below_alloc | apply pw_below_drewN | apply below_drew1 | refine below_set ?_ GE116.out | refine below_set ?_ GE117.out | refine below_set ?_ GE118.out | refine below_set ?_ GE119.out) | exact HB.out)), z_BK131, Q_GW131, Q_GE131, Q_NB116_131, Q_NB131_116, Q_NB117_131, Q_NB131_117, Q_NB118_131, Q_NB131_118, Q_NB119_131, Q_NB131_119, fun h0_ => absurd ((hoff 28 (by kernel_rfl)).symm.trans h0_) (by decide), Q_X27_⟩
      refine steps_cons ?_ ?_
      ·
       rintro b a w' ⟨gb131, m27_, ha, Q_BK116, Q_BK117, Q_BK118, Q_BK119, Q_HB, Q_BK131, Q_GW131, Q_GE131, Q_NB116_131, Q_NB131_116, Q_NB117_131, Q_NB131_117, Q_NB118_131, Q_NB131_118, Q_NB119_131, Q_NB131_119, Q_BK131_e28, Q_X27_⟩ hb_ hon hoff
       refine ⟨_, rfl, fun K hK => ?_⟩
       have e45 : a.tmps[45]? = some (.pointer (some ⟨gb116, 1, none⟩)) := by rw [ha]; exact (putSel_off rfl).trans rfl
       replace ha := Aside0.mk ha
       have BK116 := Aside0.mk Q_BK116
       have BK117 := Aside0.mk Q_BK117
       have BK118 := Aside0.mk Q_BK118
       have BK119 := Aside0.mk Q_BK119
       have HB := Aside0.mk Q_HB
       have hc0_ : w'.cell? ⟨gb116, 0, none⟩ = some (.func (.func 15) #[] #[]) := (blk_cell BK116.out 0).trans rfl
       have hc1_ : w'.cell? ⟨gb116, 1, none⟩ = some (.func (.func 16) #[] #[]) := (blk_cell BK116.out 1).trans rfl
       refine value_ (w1 := w') (v := .func (.func 16) #[] #[]) (by rfl) rfl ?_ ?_
       ·
        go_simp
        (try simp only [i64_w])
        try rfl
       refine hK.out _ _ ⟨gb131, m27_, (by rw [ha.out]; exact putSel_upk 10 hb_ rfl rfl rfl), Q_BK116, Q_BK117, Q_BK118, Q_BK119, Q_HB, Q_BK131, Q_GW131, Q_GE131, Q_NB116_131, Q_NB131_116, Q_NB117_131, Q_NB131_117, Q_NB118_131, Q_NB131_118, Q_NB119_131, Q_NB131_119, fun h0_ => absurd ((hoff 28 (by kernel_rfl)).symm.trans h0_) (by decide), Q_X27_⟩
      refine steps_cons ?_ ?_
      ·
       rintro b a w' ⟨gb131, m27_, ha, Q_BK116, Q_BK117, Q_BK118, Q_BK119, Q_HB, Q_BK131, Q_GW131, Q_GE131, Q_NB116_131, Q_NB131_116, Q_NB117_131, Q_NB131_117, Q_NB118_131, Q_NB131_118, Q_NB119_131, Q_NB131_119, Q_BK131_e28, Q_X27_⟩ hb_ hon hoff
       refine ⟨_, rfl, fun K hK => ?_⟩
       have e48 : a.tmps[48]? = some (.pointer (some ⟨gb117, 4, none⟩)) := by rw [ha]; exact (putSel_off rfl).trans rfl
       replace ha := Aside0.mk ha
       have BK116 := Aside0.mk Q_BK116
       have BK117 := Aside0.mk Q_BK117
       have BK118 := Aside0.mk Q_BK118
       have BK119 := Aside0.mk Q_BK119
       have HB := Aside0.mk Q_HB
       have hc0_ : w'.cell? ⟨gb117, 0, none⟩ = some (.slice A1_0 l1_0.length c1_0) := (blk_cell BK117.out 0).trans rfl
       have hc1_ : w'.cell? ⟨gb117, 1, none⟩ = some (.int .i64 a1_1) := (blk_cell BK117.out 1).trans rfl
       have hc2_ : w'.cell? ⟨gb117, 2, none⟩ = some (.int .u64 a1_2) := (blk_cell BK117.out 2).trans rfl
       have hc3_ : w'.cell? ⟨gb117, 3, none⟩ = some (.int .u64 a1_3) := (blk_cell BK117.out 3).trans rfl
       have hc4_ : w'.cell? ⟨gb117, 4, none⟩ = some (.int .u64 a1_4) := (blk_cell BK117.out 4).trans rfl
       have hc5_ : w'.cell? ⟨gb117, 5, none⟩ = some (.int .u64 a1_5) := (blk_cell BK117.out 5).trans rfl
       have hc6_ : w'.cell? ⟨gb117, 6, none⟩ = some (.bool a1_6) := (blk_cell BK117.out 6).trans rfl
       refine value_ (w1 := w') (v := .agg #[.int .u64 a1_4, .int .u64 a1_5]) (by rfl) rfl ?_ ?_
       ·
        go_simp
        (try simp only [i64_w])
        try rfl
       refine hK.out _ _ ⟨gb131, m27_, (by rw [ha.out]; exact putSel_upk 11 hb_ rfl rfl rfl), Q_BK116, Q_BK117, Q_BK118, Q_BK119, Q_HB, Q_BK131, Q_GW131, Q_GE131, Q_NB116_131, Q_NB131_116, Q_NB117_131, Q_NB131_117, Q_NB118_131, Q_NB131_118, Q_NB119_131, Q_NB131_119, fun h0_ => absurd ((hoff 28 (by kernel_rfl)).symm.trans h0_) (by decide), Q_X27_⟩
      refine steps_cons ?_ ?_
      ·
       rintro b a w' ⟨gb131, m27_, ha, Q_BK116, Q_BK117, Q_BK118, Q_BK119, Q_HB, Q_BK131, Q_GW131, Q_GE131, Q_NB116_131, Q_NB131_116, Q_NB117_131, Q_NB131_117, Q_NB118_131, Q_NB131_118, Q_NB119_131, Q_NB131_119, Q_BK131_e28, Q_X27_⟩ hb_ hon hoff
       refine ⟨_, rfl, fun K hK => ?_⟩
       have e51 : a.tmps[51]? = some (.pointer (some ⟨gb118, 4, none⟩)) := by rw [ha]; exact (putSel_off rfl).trans rfl
       replace ha := Aside0.mk ha
       have BK116 := Aside0.mk Q_BK116
       have BK117 := Aside0.mk Q_BK117
       have BK118 := Aside0.mk Q_BK118
       have BK119 := Aside0.mk Q_BK119
       have HB := Aside0.mk Q_HB
       have hc0_ : w'.cell? ⟨gb118, 0, none⟩ = some (.slice A2_0 l2_0.length c2_0) := (blk_cell BK118.out 0).trans rfl
       have hc1_ : w'.cell? ⟨gb118, 1, none⟩ = some (.int .i64 a2_1) := (blk_cell BK118.out 1).trans rfl
       have hc2_ : w'.cell? ⟨gb118, 2, none⟩ = some (.int .u64 a2_2) := (blk_cell BK118.out 2).trans rfl
       have hc3_ : w'.cell? ⟨gb118, 3, none⟩ = some (.int .u64 a2_3) := (blk_cell BK118.out 3).trans rfl
       have hc4_ : w'.cell? ⟨gb118, 4, none⟩ = some (.int .u64 a2_4) := (blk_cell BK118.out 4).trans rfl
       have hc5_ : w'.cell? ⟨gb118, 5, none⟩ = some (.int .u64 a2_5) := (blk_cell BK118.out 5).trans rfl
       have hc6_ : w'.cell? ⟨gb118, 6, none⟩ = some (.bool a2_6) := (blk_cell BK118.out 6).trans rfl
       refine value_ (w1 := w') (v := .agg #[.int .u64 a2_4, .int .u64 a2_5]) (by rfl) rfl ?_ ?_
       ·
        go_simp
        (try simp only [i64_w])
        try rfl
       refine hK.out _ _ ⟨gb131, m27_, (by rw [ha.out]; exact putSel_upk 12 hb_ rfl rfl rfl), Q_BK116, Q_BK117, Q_BK118, Q_BK119, Q_HB, Q_BK131, Q_GW131, Q_GE131, Q_NB116_131, Q_NB131_116, Q_NB117_131, Q_NB131_117, Q_NB118_131, Q_NB131_118, Q_NB119_131, Q_NB131_119, fun h0_ => absurd ((hoff 28 (by kernel_rfl)).symm.trans h0_) (by decide), Q_X27_⟩
      refine steps_cons ?_ ?_
      ·
       rintro b a w' ⟨gb131, m27_, ha, Q_BK116, Q_BK117, Q_BK118, Q_BK119, Q_HB, Q_BK131, Q_GW131, Q_GE131, Q_NB116_131, Q_NB131_116, Q_NB117_131, Q_NB131_117, Q_NB118_131, Q_NB131_118, Q_NB119_131, Q_NB131_119, Q_BK131_e28, Q_X27_⟩ hb_ hon hoff
       refine ⟨_, rfl, fun K hK => ?_⟩
       have e46 : a.tmps[46]? = some (.func (.func 16) #[] #[]) := by rw [ha]; exact putSel_on (e := (17, 46, .func (.func 16) #[] #[])) 10 rfl rfl (hon 17 (by kernel_rfl)) rfl
       have e49 : a.tmps[49]? = some (.agg #[.int .u64 a1_4, .int .u64 a1_5]) := by rw [ha]; exact putSel_on (e := (20, 49, .agg #[.int .u64 a1_4, .int .u64 a1_5])) 11 rfl rfl (hon 20 (by kernel_rfl)) rfl
       have e52 : a.tmps[52]? = some (.agg #[.int .u64 a2_4, .int .u64 a2_5]) := by rw [ha]; exact putSel_on (e := (23, 52, .agg #[.int .u64 a2_4, .int .u64 a2_5])) 12 rfl rfl (hon 23 (by kernel_rfl)) rfl
       replace ha := Aside0.mk ha
       have BK116 := Aside0.mk Q_BK116
       have BK117 := Aside0.mk Q_BK117
       have BK118 := Aside0.mk Q_BK118
       have BK119 := Aside0.mk Q_BK119
       have HB := Aside0.mk Q_HB
       refine goesT_ Try.func16 (by kernel_rfl) rfl #[.agg #[.int .u64 a1_4, .int .u64 a1_5], .agg #[.int .u64 a2_4, .int .u64 a2_5]] (by rfl) rfl rfl (by first | rfl | (go_simp; done)) (by first | (simp only [List.map_toArray, List.map_cons, List.map_nil, Act.eval, Array.getD_eq_getD_getElem?, Option.getD_some, e46, e49, e52]; done) | (simp only [List.map_toArray, List.map_cons, List.map_nil, Act.eval, Array.getD_eq_getD_getElem?, Option.getD_some, e46, e49, e52]; rfl)) ?_
       with_reducible refine (wide_Add.calls a1_4 a1_5 a2_4 a2_5 t129 t130 _ A43.out).mono ?_
       rintro e w50 ⟨rfl, hb⟩
       refine ⟨_, rfl, ?_⟩
       have n0_ := ledger_way_both_f15.keepB BK116 hb
       have n1_ := ledger_way_both_f15.keepB BK117 hb
       have n2_ := ledger_way_both_f15.keepB BK118 hb
       have n3_ := ledger_way_both_f15.keepB BK119 hb
       have n4_ := Aside0.mk (below_step (by repeat (first | (with_reducible first | exact HB.out | apply below_alloc | apply pw_below_drewN | apply below_drew1 | refine below_set ?_ GE116.out | refine below_set ?_ GE117.out | refine below_set ?_ GE118.out | refine below_set ?_ GE119.out) | exact HB.out)) hb)
       have z_BK131 := fun (h0_ : b 27 = true) (h1_ : b 28 = false) => (show w50.heap[gb131]? = some (.cells #[.slice none 0 0, .int .i64 0, .int .u64 0, .int .u64 0, .int .u64 0, .int .u64 0, .bool false] 48 (0, 0)) from by first | exact (blk_below (g := gb131) (o := .cells #[.slice none 0 0, .int .i64 0, .int .u64 0, .int .u64 0, .int .u64 0, .int .u64 0, .bool false] 48 (0, 0)) (by (with_reducible repeat (first | refine blk_drewN ?_ _ | refine blk_drew ?_ | refine blk_alloc ?_ _)); exact (Q_BK131 h0_ h1_)) hb))
       clear BK116
       clear BK117
       clear BK118
       clear BK119
       clear HB
       have BK116 := n0_
       have BK117 := n1_
       have BK118 := n2_
       have BK119 := n3_
       have HB := n4_
       clear n0_ n1_ n2_ n3_ n4_
       (try clear hb)
       (try clear hb2)
       (try clear hk)
       (try clear hi)
       refine hK.out _ _ ⟨gb131, m27_, (by rw [ha.out]; exact putSel_upk 13 hb_ rfl rfl rfl), (by (with_reducible repeat (first | refine blk_drewN ?_ _ | refine blk_drew ?_ | refine blk_alloc ?_ _)); exact BK116.out), (by (with_reducible repeat (first | refine blk_drewN ?_ _ | refine blk_drew ?_ | refine blk_alloc ?_ _)); exact BK117.out), (by (with_reducible repeat (first | refine blk_drewN ?_ _ | refine blk_drew ?_ | refine blk_alloc ?_ _)); exact BK118.out), (by (with_reducible repeat (first | refine blk_drewN ?_ _ | refine blk_drew ?_ | refine blk_alloc ?_ _)); exact BK119.out), (by repeat (first | (with_reducible first | exact HB.out | apply below_alloc | apply pw_below_drewN | apply below_drew1 | refine below_set ?_ GE116.out | refine below_set ?_ GE117.out | refine below_set ?_ GE118.out | refine below_set ?_ GE119.out) | exact HB.out)), z_BK131, Q_GW131, Q_GE131, Q_NB116_131, Q_NB131_116, Q_NB117_131, Q_NB131_117, Q_NB118_131, Q_NB131_118, Q_NB119_131, Q_NB131_119, fun h0_ => absurd ((hoff 28 (by kernel_rfl)).symm.trans h0_) (by decide), Q_X27_⟩
      refine steps_cons ?_ ?_
      ·
       rintro b a w' ⟨gb131, m27_, ha, Q_BK116, Q_BK117, Q_BK118, Q_BK119, Q_HB, Q_BK131, Q_GW131, Q_GE131, Q_NB116_131, Q_NB131_116, Q_NB117_131, Q_NB131_117, Q_NB118_131, Q_NB131_118, Q_NB119_131, Q_NB131_119, Q_BK131_e28, Q_X27_⟩ hb_ hon hoff
       refine ⟨_, rfl, fun K hK => ?_⟩
       have e37 : a.tmps[37]? = some (.int .i64 t122) := by rw [ha]; exact putSel_on (e := (8, 37, .int .i64 t122)) 3 rfl rfl (hon 8 (by kernel_rfl)) rfl
       have e44 : a.tmps[44]? = some (.agg #[.int .u64 t127, .int .u64 t128]) := by rw [ha]; exact putSel_on (e := (15, 44, .agg #[.int .u64 t127, .int .u64 t128])) 9 rfl rfl (hon 15 (by kernel_rfl)) rfl
       have e53 : a.tmps[53]? = some (.agg #[.int .u64 t129, .int .u64 t130]) := by rw [ha]; exact putSel_on (e := (24, 53, .agg #[.int .u64 t129, .int .u64 t130])) 13 rfl rfl (hon 24 (by kernel_rfl)) rfl
       replace ha := Aside0.mk ha
       have BK116 := Aside0.mk Q_BK116
       have BK117 := Aside0.mk Q_BK117
       have BK118 := Aside0.mk Q_BK118
       have BK119 := Aside0.mk Q_BK119
       have HB := Aside0.mk Q_HB
       refine value_ (w1 := w') (v := .agg #[.slice none 0 0, .int .i64 t122, .int .u64 t127, .int .u64 t128, .int .u64 t129, .int .u64 t130, .bool false]) (by rfl) rfl ?_ ?_
       ·
        go_simp
        (try simp only [i64_w])
        try rfl
       refine hK.out _ _ ⟨gb131, m27_, (by rw [ha.out]; exact putSel_upk 14 hb_ rfl rfl rfl), Q_BK116, Q_BK117, Q_BK118, Q_BK119, Q_HB, Q_BK131, Q_GW131, Q_GE131, Q_NB116_131, Q_NB131_116, Q_NB117_131, Q_NB131_117, Q_NB118_131, Q_NB131_118, Q_NB119_131, Q_NB131_119, fun h0_ => absurd ((hoff 28 (by kernel_rfl)).symm.trans h0_) (by decide), Q_X27_⟩
      refine steps_cons ?_ ?_
      ·
       rintro b a w' ⟨gb131, m27_, ha, Q_BK116, Q_BK117, Q_BK118, Q_BK119, Q_HB, Q_BK131, Q_GW131, Q_GE131, Q_NB116_131, Q_NB131_116, Q_NB117_131, Q_NB131_117, Q_NB118_131, Q_NB131_118, Q_NB119_131, Q_NB131_119, Q_BK131_e28, Q_X27_⟩ hb_ hon hoff
       refine ⟨_, rfl, fun K hK => ?_⟩
       have e54 : a.tmps[54]? = some (.agg #[.slice none 0 0, .int .i64 t122, .int .u64 t127, .int .u64 t128, .int .u64 t129, .int .u64 t130, .bool false]) := by rw [ha]; exact putSel_on (e := (25, 54, .agg #[.slice none 0 0, .int .i64 t122, .int .u64 t127, .int .u64 t128, .int .u64 t129, .int .u64 t130, .bool false])) 14 rfl rfl (hon 25 (by kernel_rfl)) rfl
       replace ha := Aside0.mk ha
       have BK116 := Aside0.mk Q_BK116
       have BK117 := Aside0.mk Q_BK117
       have BK118 := Aside0.mk Q_BK118
       have BK119 := Aside0.mk Q_BK119
       have HB := Aside0.mk Q_HB
       refine value_ (w1 := w') (v := .agg #[.slice none 0 0, .int .i64 t122, .int .u64 t127, .int .u64 t128, .int .u64 t129, .int .u64 t130, .bool false]) (by rfl) rfl ?_ ?_
       ·
        go_simp
        (try simp only [i64_w])
        try rfl
       refine hK.out _ _ ⟨gb131, m27_, (by rw [ha.out]; exact putSel_upk 15 hb_ rfl rfl rfl), Q_BK116, Q_BK117, Q_BK118, Q_BK119, Q_HB, Q_BK131, Q_GW131, Q_GE131, Q_NB116_131, Q_NB131_116, Q_NB117_131, Q_NB131_117, Q_NB118_131, Q_NB131_118, Q_NB119_131, Q_NB131_119, fun h0_ => absurd ((hoff 28 (by kernel_rfl)).symm.trans h0_) (by decide), Q_X27_⟩
      refine steps_cons ?_ ?_
      ·
       rintro b a w' ⟨gb131, m27_, ha, Q_BK116, Q_BK117, Q_BK118, Q_BK119, Q_HB, Q_BK131, Q_GW131, Q_GE131, Q_NB116_131, Q_NB131_116, Q_NB117_131, Q_NB131_117, Q_NB118_131, Q_NB131_118, Q_NB119_131, Q_NB131_119, Q_BK131_e28, Q_X27_⟩ hb_ hon hoff
       refine ⟨_, rfl, fun K hK => ?_⟩
       replace ha := Aside0.mk ha
       have BK116 := Aside0.mk Q_BK116
       have BK117 := Aside0.mk Q_BK117
       have BK118 := Aside0.mk Q_BK118
       have BK119 := Aside0.mk Q_BK119
       have HB := Aside0.mk Q_HB
       refine box_step ?hg (N := 8) ?hd (cs := #[.slice none 0 0, .int .i64 0, .int .u64 0, .int .u64 0, .int .u64 0, .int .u64 0, .bool false]) (t := 48) ?hr ?_; (case hd => rfl); (case hg => rfl); (case hr => first | (go_simp; done) | (go_simp; rfl))
       intro gb131 hg w45 hbox hb
       have n0_ := ledger_way_both_f15.keepB BK116 hb
       have n1_ := ledger_way_both_f15.keepB BK117 hb
       have n2_ := ledger_way_both_f15.keepB BK118 hb
       have n3_ := ledger_way_both_f15.keepB BK119 hb
       have n4_ := Aside0.mk (below_step (by repeat (first | (with_reducible first | exact HB.out | apply below_alloc | apply pw_below_drewN | apply below_drew1 | refine below_set ?_ GE116.out | refine below_set ?_ GE117.out | refine below_set ?_ GE118.out | refine below_set ?_ GE119.out) | exact HB.out)) hb)
       have n5_ := Aside0.mk (hbox)
       have n6_ := Aside0.mk ((by rw [hg]; exact (below_size (by repeat (first | (with_reducible first | exact HB.out | apply below_alloc | apply pw_below_drewN | apply below_drew1 | refine below_set ?_ GE116.out | refine below_set ?_ GE117.out | refine below_set ?_ GE118.out | refine below_set ?_ GE119.out) | exact HB.out))) : w.heap.size ≤ gb131))
       have n7_ := Aside0.mk ((by rw [hg]; exact (below_size (by repeat (first | (with_reducible first | exact HB.out | apply below_alloc | apply pw_below_drewN | apply below_drew1 | refine below_set ?_ GE116.out | refine below_set ?_ GE117.out | refine below_set ?_ GE118.out | refine below_set ?_ GE119.out) | exact HB.out))) : w.heap.size ≤ gb131))
       have n8_ := ledger_way_both_f15.neL BK116 hg
       have n9_ := ledger_way_both_f15.neG BK116 hg
       have n10_ := ledger_way_both_f15.neL BK117 hg
       have n11_ := ledger_way_both_f15.neG BK117 hg
       have n12_ := ledger_way_both_f15.neL BK118 hg
       have n13_ := ledger_way_both_f15.neG BK118 hg
       have n14_ := ledger_way_both_f15.neL BK119 hg
       have n15_ := ledger_way_both_f15.neG BK119 hg
       clear BK116
       clear BK117
       clear BK118
       clear BK119
       clear HB
       have BK116 := n0_
       have BK117 := n1_
       have BK118 := n2_
       have BK119 := n3_
       have HB := n4_
       have BK131 := n5_
       have GW131 := n6_
       have GE131 := n7_
       have NB116_131 := n8_
       have NB131_116 := n9_
       have NB117_131 := n10_
       have NB131_117 := n11_
       have NB118_131 := n12_
       have NB131_118 := n13_
       have NB119_131 := n14_
       have NB131_119 := n15_
       clear n0_ n1_ n2_ n3_ n4_ n5_ n6_ n7_ n8_ n9_ n10_ n11_ n12_ n13_ n14_ n15_
       clear hb hbox hg
       refine hK.out _ _ ⟨gb131, (.pointer (some ⟨gb131, 0, none⟩)), (by rw [ha.out]; exact putSel_upk 16 hb_ rfl rfl rfl), (by (with_reducible repeat (first | refine blk_drewN ?_ _ | refine blk_drew ?_ | refine blk_alloc ?_ _)); exact BK116.out), (by (with_reducible repeat (first | refine blk_drewN ?_ _ | refine blk_drew ?_ | refine blk_alloc ?_ _)); exact BK117.out), (by (with_reducible repeat (first | refine blk_drewN ?_ _ | refine blk_drew ?_ | refine blk_alloc ?_ _)); exact BK118.out), (by (with_reducible repeat (first | refine blk_drewN ?_ _ | refine blk_drew ?_ | refine blk_alloc ?_ _)); exact BK119.out), (by repeat (first | (with_reducible first | exact HB.out | apply below_alloc | apply pw_below_drewN | apply below_drew1 | refine below_set ?_ GE116.out | refine below_set ?_ GE117.out | refine below_set ?_ GE118.out | refine below_set ?_ GE119.out | refine below_set ?_ GE131.out) | exact HB.out)), fun _ _ => (by (with_reducible repeat (first | refine blk_drewN ?_ _ | refine blk_drew ?_ | refine blk_alloc ?_ _)); exact BK131.out), fun _ => GW131.out, fun _ => GE131.out, fun _ => NB116_131.out, fun _ => NB131_116.out, fun _ => NB117_131.out, fun _ => NB131_117.out, fun _ => NB118_131.out, fun _ => NB131_118.out, fun _ => NB119_131.out, fun _ => NB131_119.out, fun h0_ => absurd ((hoff 28 (by kernel_rfl)).symm.trans h0_) (by decide), fun _ => rfl⟩
      refine steps_cons ?_ ?_
      ·
       rintro b a w' ⟨gb131, m27_, ha, Q_BK116, Q_BK117, Q_BK118, Q_BK119, Q_HB, Q_BK131, Q_GW131, Q_GE131, Q_NB116_131, Q_NB131_116, Q_NB117_131, Q_NB131_117, Q_NB118_131, Q_NB131_118, Q_NB119_131, Q_NB131_119, Q_BK131_e28, Q_X27_⟩ hb_ hon hoff
       refine ⟨_, rfl, fun K hK => ?_⟩
       have e8 : a.tmps[8]? = some (m27_) := by rw [ha]; exact putSel_on (e := (27, 8, m27_)) 16 rfl rfl (hon 27 (by kernel_rfl)) rfl
       rw [Q_X27_ (hon 27 (by kernel_rfl))] at e8
       have e55 : a.tmps[55]? = some (.agg #[.slice none 0 0, .int .i64 t122, .int .u64 t127, .int .u64 t128, .int .u64 t129, .int .u64 t130, .bool false]) := by rw [ha]; exact putSel_on (e := (26, 55, .agg #[.slice none 0 0, .int .i64 t122, .int .u64 t127, .int .u64 t128, .int .u64 t129, .int .u64 t130, .bool false])) 15 rfl rfl (hon 26 (by kernel_rfl)) rfl
       replace ha := Aside0.mk ha
       have BK116 := Aside0.mk Q_BK116
       have BK117 := Aside0.mk Q_BK117
       have BK118 := Aside0.mk Q_BK118
       have BK119 := Aside0.mk Q_BK119
       have HB := Aside0.mk Q_HB
       have BK131 := Aside0.mk (Q_BK131 (hon 27 (by kernel_rfl)) hb_)
       have GW131 := Aside0.mk (Q_GW131 (hon 27 (by kernel_rfl)))
       have GE131 := Aside0.mk (Q_GE131 (hon 27 (by kernel_rfl)))
       have NB116_131 := Aside0.mk (Q_NB116_131 (hon 27 (by kernel_rfl)))
       have NB131_116 := Aside0.mk (Q_NB131_116 (hon 27 (by kernel_rfl)))
       have NB117_131 := Aside0.mk (Q_NB117_131 (hon 27 (by kernel_rfl)))
       have NB131_117 := Aside0.mk (Q_NB131_117 (hon 27 (by kernel_rfl)))
       have NB118_131 := Aside0.mk (Q_NB118_131 (hon 27 (by kernel_rfl)))
       have NB131_118 := Aside0.mk (Q_NB131_118 (hon 27 (by kernel_rfl)))
       have NB119_131 := Aside0.mk (Q_NB119_131 (hon 27 (by kernel_rfl)))
       have NB131_119 := Aside0.mk (Q_NB131_119 (hon 27 (by kernel_rfl)))
       have hs52 : w'.cell? ⟨gb131, 0, none⟩ = some (.slice none 0 0) := (blk_cell BK131.out 0).trans rfl
       have hfs52 := blk_frozen BK131.out 0
       have hns52_0 := NB116_131.out
       have hns52_1 := NB117_131.out
       have hns52_2 := NB118_131.out
       have hns52_3 := NB119_131.out
       have hms52_0 := NB131_116.out
       have hms52_1 := NB131_117.out
       have hms52_2 := NB131_118.out
       have hms52_3 := NB131_119.out
       have hs53 : w'.cell? ⟨gb131, 1, none⟩ = some (.int .i64 0) := (blk_cell BK131.out 1).trans rfl
       have hfs53 := blk_frozen BK131.out 1
       have hns53_0 := NB116_131.out
       have hns53_1 := NB117_131.out
       have hns53_2 := NB118_131.out
       have hns53_3 := NB119_131.out
       have hms53_0 := NB131_116.out
       have hms53_1 := NB131_117.out
       have hms53_2 := NB131_118.out
       have hms53_3 := NB131_119.out
       have hs54 : w'.cell? ⟨gb131, 2, none⟩ = some (.int .u64 0) := (blk_cell BK131.out 2).trans rfl
       have hfs54 := blk_frozen BK131.out 2
       have hns54_0 := NB116_131.out
       have hns54_1 := NB117_131.out
       have hns54_2 := NB118_131.out
       have hns54_3 := NB119_131.out
       have hms54_0 := NB131_116.out
       have hms54_1 := NB131_117.out
       have hms54_2 := NB131_118.out
       have hms54_3 := NB131_119.out
       have hs55 : w'.cell? ⟨gb131, 3, none⟩ = some (.int .u64 0) := (blk_cell BK131.out 3).trans rfl
       have hfs55 := blk_frozen BK131.out 3
       have hns55_0 := NB116_131.out
       have hns55_1 := NB117_131.out
       have hns55_2 := NB118_131.out
       have hns55_3 := NB119_131.out
       have hms55_0 := NB131_116.out
       have hms55_1 := NB131_117.out
       have hms55_2 := NB131_118.out
       have hms55_3 := NB131_119.out
       have hs56 : w'.cell? ⟨gb131, 4, none⟩ = some (.int .u64 0) := (blk_cell BK131.out 4).trans rfl
       have hfs56 := blk_frozen BK131.out 4
       have hns56_0 := NB116_131.out
       have hns56_1 := NB117_131.out
       have hns56_2 := NB118_131.out
       have hns56_3 := NB119_131.out
       have hms56_0 := NB131_116.out
       have hms56_1 := NB131_117.out
       have hms56_2 := NB131_118.out
       have hms56_3 := NB131_119.out
       have hs57 : w'.cell? ⟨gb131, 5, none⟩ = some (.int .u64 0) := (blk_cell BK131.out 5).trans rfl
       have hfs57 := blk_frozen BK131.out 5
       have hns57_0 := NB116_131.out
       have hns57_1 := NB117_131.out
       have hns57_2 := NB118_131.out
       have hns57_3 := NB119_131.out
       have hms57_0 := NB131_116.out
       have hms57_1 := NB131_117.out
       have hms57_2 := NB131_118.out
       have hms57_3 := NB131_119.out
       have hs58 : w'.cell? ⟨gb131, 6, none⟩ = some (.bool false) := (blk_cell BK131.out 6).trans rfl
       have hfs58 := blk_frozen BK131.out 6
       have hns58_0 := NB116_131.out
       have hns58_1 := NB117_131.out
       have hns58_2 := NB118_131.out
       have hns58_3 := NB119_131.out
       have hms58_0 := NB131_116.out
       have hms58_1 := NB131_117.out
       have hms58_2 := NB131_118.out
       have hms58_3 := NB131_119.out
       refine skip_ (w1 := ?_) ?_ ?_ ?_ ?_
       rotate_left
       · rfl
       · rfl
       ·
         go_simp
         rfl
       refine hK.out _ _ ⟨gb131, m27_, (by rw [ha.out]; exact putSel_none (v := undef) rfl), (by (repeat (first | (with_reducible first | refine blk_drewN ?_ _ | refine blk_drew ?_ | refine blk_alloc ?_ _) | refine blk_far ?_ NB116_131.out _)); (with_reducible repeat (first | refine blk_drewN ?_ _ | refine blk_drew ?_ | refine blk_alloc ?_ _)); exact BK116.out), (by (repeat (first | (with_reducible first | refine blk_drewN ?_ _ | refine blk_drew ?_ | refine blk_alloc ?_ _) | refine blk_far ?_ NB117_131.out _)); (with_reducible repeat (first | refine blk_drewN ?_ _ | refine blk_drew ?_ | refine blk_alloc ?_ _)); exact BK117.out), (by (repeat (first | (with_reducible first | refine blk_drewN ?_ _ | refine blk_drew ?_ | refine blk_alloc ?_ _) | refine blk_far ?_ NB118_131.out _)); (with_reducible repeat (first | refine blk_drewN ?_ _ | refine blk_drew ?_ | refine blk_alloc ?_ _)); exact BK118.out), (by (repeat (first | (with_reducible first | refine blk_drewN ?_ _ | refine blk_drew ?_ | refine blk_alloc ?_ _) | refine blk_far ?_ NB119_131.out _)); (with_reducible repeat (first | refine blk_drewN ?_ _ | refine blk_drew ?_ | refine blk_alloc ?_ _)); exact BK119.out), (by repeat (first | (with_reducible first | exact HB.out | apply below_alloc | apply pw_below_drewN | apply below_drew1 | refine below_set ?_ GE116.out | refine below_set ?_ GE117.out | refine below_set ?_ GE118.out | refine below_set ?_ GE119.out | refine below_set ?_ GE131.out) | exact HB.out)), fun _ h1_ => absurd ((up_self b 28).symm.trans h1_) (by decide), fun _ => GW131.out, fun _ => GE131.out, fun _ => NB116_131.out, fun _ => NB131_116.out, fun _ => NB117_131.out, fun _ => NB131_117.out, fun _ => NB118_131.out, fun _ => NB131_118.out, fun _ => NB119_131.out, fun _ => NB131_119.out, fun _ => (by (with_reducible repeat (first | refine blk_drewN ?_ _ | refine blk_drew ?_ | refine blk_alloc ?_ _)); refine blk_put (cs := #[.slice none 0 0, .int .i64 t122, .int .u64 t127, .int .u64 t128, .int .u64 t129, .int .u64 t130, .bool false]) ?_ 6 _ rfl; (with_reducible repeat (first | refine blk_drewN ?_ _ | refine blk_drew ?_ | refine blk_alloc ?_ _)); refine blk_put (cs := #[.slice none 0 0, .int .i64 t122, .int .u64 t127, .int .u64 t128, .int .u64 t129, .int .u64 0, .bool false]) ?_ 5 _ rfl; (with_reducible repeat (first | refine blk_drewN ?_ _ | refine blk_drew ?_ | refine blk_alloc ?_ _)); refine blk_put (cs := #[.slice none 0 0, .int .i64 t122, .int .u64 t127, .int .u64 t128, .int .u64 0, .int .u64 0, .bool false]) ?_ 4 _ rfl; (with_reducible repeat (first | refine blk_drewN ?_ _ | refine blk_drew ?_ | refine blk_alloc ?_ _)); refine blk_put (cs := #[.slice none 0 0, .int .i64 t122, .int .u64 t127, .int .u64 0, .int .u64 0, .int .u64 0, .bool false]) ?_ 3 _ rfl; (with_reducible repeat (first | refine blk_drewN ?_ _ | refine blk_drew ?_ | refine blk_alloc ?_ _)); refine blk_put (cs := #[.slice none 0 0, .int .i64 t122, .int .u64 0, .int .u64 0, .int .u64 0, .int .u64 0, .bool false]) ?_ 2 _ rfl; (with_reducible repeat (first | refine blk_drewN ?_ _ | refine blk_drew ?_ | refine blk_alloc ?_ _)); refine blk_put (cs := #[.slice none 0 0, .int .i64 0, .int .u64 0, .int .u64 0, .int .u64 0, .int .u64 0, .bool false]) ?_ 1 _ rfl; (with_reducible repeat (first | refine blk_drewN ?_ _ | refine blk_drew ?_ | refine blk_alloc ?_ _)); refine blk_put (cs := #[.slice none 0 0, .int .i64 0, .int .u64 0, .int .u64 0, .int .u64 0, .int .u64 0, .bool false]) ?_ 0 _ rfl; (with_reducible repeat (first | refine blk_drewN ?_ _ | refine blk_drew ?_ | refine blk_alloc ?_ _)); exact BK131.out), Q_X27_⟩
      exact steps_nil
     rintro b a w58 hall ⟨gb131, m27_, ha, Q_BK116, Q_BK117, Q_BK118, Q_BK119, Q_HB, Q_BK131, Q_GW131, Q_GE131, Q_NB116_131, Q_NB131_116, Q_NB117_131, Q_NB131_117, Q_NB118_131, Q_NB131_118, Q_NB119_131, Q_NB131_119, Q_BK131_e28, Q_X27_⟩
     clear BK116 BK117 BK118 BK119 HB
     have hb1_ := hall 1 (by kernel_rfl)
     have hb4_ := hall 4 (by kernel_rfl)
     have hb7_ := hall 7 (by kernel_rfl)
     have hb8_ := hall 8 (by kernel_rfl)
     have hb10_ := hall 10 (by kernel_rfl)
     have hb11_ := hall 11 (by kernel_rfl)
     have hb12_ := hall 12 (by kernel_rfl)
     have hb13_ := hall 13 (by kernel_rfl)
     have hb14_ := hall 14 (by kernel_rfl)
     have hb15_ := hall 15 (by kernel_rfl)
     have hb17_ := hall 17 (by kernel_rfl)
     have hb20_ := hall 20 (by kernel_rfl)
     have hb23_ := hall 23 (by kernel_rfl)
     have hb24_ := hall 24 (by kernel_rfl)
     have hb25_ := hall 25 (by kernel_rfl)
     have hb26_ := hall 26 (by kernel_rfl)
     have hb27_ := hall 27 (by kernel_rfl)
     have hb28_ := hall 28 (by kernel_rfl)
     subst ha
     obtain rfl := Q_X27_ hb27_
     simp only [putSel, hb1_, hb4_, hb7_, hb8_, hb10_, hb11_, hb12_, hb13_, hb14_, hb15_, hb17_, hb20_, hb23_, hb24_, hb25_, hb26_, hb27_, hb28_, if_true, Act.put, List.setIfInBounds_toArray, List.set_cons_zero, List.set_cons_succ]
     have BK116 := Aside0.mk Q_BK116
     clear Q_BK116
     have BK117 := Aside0.mk Q_BK117
     clear Q_BK117
     have BK118 := Aside0.mk Q_BK118
     clear Q_BK118
     have BK119 := Aside0.mk Q_BK119
     clear Q_BK119
     have HB := Aside0.mk Q_HB
     clear Q_HB
     clear Q_BK131
     have GW131 := Aside0.mk (Q_GW131 hb27_)
     clear Q_GW131
     have GE131 := Aside0.mk (Q_GE131 hb27_)
     clear Q_GE131
     have NB116_131 := Aside0.mk (Q_NB116_131 hb27_)
     clear Q_NB116_131
     have NB131_116 := Aside0.mk (Q_NB131_116 hb27_)
     clear Q_NB131_116
     have NB117_131 := Aside0.mk (Q_NB117_131 hb27_)
     clear Q_NB117_131
     have NB131_117 := Aside0.mk (Q_NB131_117 hb27_)
     clear Q_NB131_117
     have NB118_131 := Aside0.mk (Q_NB118_131 hb27_)
     clear Q_NB118_131
     have NB131_118 := Aside0.mk (Q_NB131_118 hb27_)
     clear Q_NB131_118
     have NB119_131 := Aside0.mk (Q_NB119_131 hb27_)
     clear Q_NB119_131
     have NB131_119 := Aside0.mk (Q_NB131_119 hb27_)
     clear Q_NB131_119
     have BK131 := Aside0.mk (Q_BK131_e28 hb28_)
     clear Q_BK131_e28
     clear hall hb1_ hb4_ hb7_ hb8_ hb10_ hb11_ hb12_ hb13_ hb14_ hb15_ hb17_ hb20_ hb23_ hb24_ hb25_ hb26_ hb27_ hb28_
     have hnb59 := NB117_116.out
     have hnc59 := NB116_117.out
     have hnb60 := NB117_118.out
     have hnc60 := NB118_117.out
     have hnb61 := NB117_119.out
     have hnc61 := NB119_117.out
     have hnb62 := NB117_131.out
     have hnc62 := NB131_117.out
     have hcz63_0 : w58.cell? ⟨gb117, 0, none⟩ = some (.slice A1_0 l1_0.length c1_0) := (blk_cell BK117.out 0).trans rfl
     have hcz63_1 : w58.cell? ⟨gb117, 1, none⟩ = some (.int .i64 a1_1) := (blk_cell BK117.out 1).trans rfl
     have hcz63_2 : w58.cell? ⟨gb117, 2, none⟩ = some (.int .u64 a1_2) := (blk_cell BK117.out 2).trans rfl
     have hcz63_3 : w58.cell? ⟨gb117, 3, none⟩ = some (.int .u64 a1_3) := (blk_cell BK117.out 3).trans rfl
     have hcz63_4 : w58.cell? ⟨gb117, 4, none⟩ = some (.int .u64 a1_4) := (blk_cell BK117.out 4).trans rfl
     have hcz63_5 : w58.cell? ⟨gb117, 5, none⟩ = some (.int .u64 a1_5) := (blk_cell BK117.out 5).trans rfl
     have hcz63_6 : w58.cell? ⟨gb117, 6, none⟩ = some (.bool a1_6) := (blk_cell BK117.out 6).trans rfl
     have hfz63_0 := blk_frozen BK117.out 0
     have hfz63_1 := blk_frozen BK117.out 1
     have hfz63_2 := blk_frozen BK117.out 2
     have hfz63_3 := blk_frozen BK117.out 3
     have hfz63_4 := blk_frozen BK117.out 4
     have hfz63_5 := blk_frozen BK117.out 5
     have hfz63_6 := blk_frozen BK117.out 6
     try go_wp2
     go_loopg [60] kj4 (fun kq v60 w' => ∃ (x60_2 : Int) (x132000_2 : List Int) (u132000 : Value), v60 = .int .i64 x60_2 ∧ Aside0 (ledger_way_both_f15.l0 kq (l1_0.length : Int) x60_2 l1_0 a1_1 a1_2 a1_3 a1_4 a1_5 a1_6 l2_0 a2_1 a2_2 a2_3 a2_4 a2_5 a2_6 x132000_2 t122 t127 t128 t129 t130 false = some (r1, r2, r3, r4, r5, r6, r7, r8)) ∧ Aside0 (kq ≤ kj4) ∧ Aside0 (Kd.R (Kd.int .i64) 3 w' w.heap.size (fun _ => True) u132000 x132000_2) ∧ Aside0 (w'.heap[gb116]? = some (.cells #[.func (.func 15) #[] #[], .func (.func 16) #[] #[]] 45 (0, 0))) ∧ Aside0 (w'.heap[gb117]? = some (.cells #[(.slice A1_0 l1_0.length c1_0), .int .i64 a1_1, .int .u64 a1_2, .int .u64 a1_3, .int .u64 a1_4, .int .u64 a1_5, .bool a1_6] 48 (0, 0))) ∧ Aside0 (w'.heap[gb118]? = some (.cells #[(.slice A2_0 l2_0.length c2_0), .int .i64 a2_1, .int .u64 a2_2, .int .u64 a2_3, .int .u64 a2_4, .int .u64 a2_5, .bool a2_6] 48 (0, 0))) ∧ Aside0 (w'.heap[gb119]? = some (.cells #[(.slice none 0 0), .int .i64 0, .int .u64 0, .int .u64 0, .int .u64 0, .int .u64 0, .bool false] 27 (0, 0))) ∧ Aside0 (w'.heap[gb131]? = some (.cells #[u132000, .int .i64 t122, .int .u64 t127, .int .u64 t128, .int .u64 t129, .int .u64 t130, .bool false] 48 (0, 0))) ∧ Aside0 (Below w.heap.size w w'))
     case atStart => exact ⟨(0), (([] : List Int)), (.slice none 0 0), (by first | rfl | (simp; done) | (simp [*]; done)), H', ⟨Nat.le_refl _⟩, ⟨by first | exact Kd.R_nil _ _ _ _ _ | exact Kd.N_nil _ _ _ _ _ | exact Kd.V_nil _ _ _ _ _ | exact Kd.Q_nil _ _ _ _ _ | exact Kd.S_nil _ _ _ _ _⟩, ⟨by (with_reducible repeat (first | refine blk_drewN ?_ _ | refine blk_drew ?_ | refine blk_alloc ?_ _)); exact BK116.out⟩, ⟨by (with_reducible repeat (first | refine blk_drewN ?_ _ | refine blk_drew ?_ | refine blk_alloc ?_ _)); exact BK117.out⟩, ⟨by (with_reducible repeat (first | refine blk_drewN ?_ _ | refine blk_drew ?_ | refine blk_alloc ?_ _)); exact BK118.out⟩, ⟨by (with_reducible repeat (first | refine blk_drewN ?_ _ | refine blk_drew ?_ | refine blk_alloc ?_ _)); exact BK119.out⟩, ⟨by (with_reducible repeat (first | refine blk_drewN ?_ _ | refine blk_drew ?_ | refine blk_alloc ?_ _)); exact BK131.out⟩, ⟨by repeat (first | (with_reducible first | exact HB.out | apply below_alloc | apply pw_below_drewN | apply below_drew1 | refine below_set ?_ GE116.out | refine below_set ?_ GE117.out | refine below_set ?_ GE118.out | refine below_set ?_ GE119.out | refine below_set ?_ GE131.out) | exact HB.out)⟩⟩
     case round =>
      clear H'
      try clear c1
      try clear c2
      try clear p2
      try clear c3
      try clear c4
      try clear c5
      try clear c6
      try clear c15
      try clear c16
      try clear c32
      try clear c59
      try clear c60
      try clear c61
      try clear c62
      try clear hcz63_0
      try clear hcz63_1
      try clear hcz63_2
      try clear hcz63_3
      try clear hcz63_4
      try clear hcz63_5
      try clear hcz63_6
      try clear hfz63_0
      try clear hfz63_1
      try clear hfz63_2
      try clear hfz63_3
      try clear hfz63_4
      try clear hfz63_5
      try clear hfz63_6
      obtain ⟨x60_2, x132000_2, u132000, rfl, HA, HK2, HO_132000, BK116, BK117, BK118, BK119, BK131, HB⟩ := hrel
      cases gk with
      | zero => exact absurd HA.out (by simp [ledger_way_both_f15.l0])
      | succ k2 =>
       have H := HA.out
       clear HA
       simp only [ledger_way_both_f15.l0] at H
       by_cases c64 : x60_2 < (l1_0.length : Int)
       ·
        rw [if_pos c64] at H
        have c64b0 : decide (x60_2 < (l1_0.length : Int)) = true := decide_eq_true c64
        clear c64
        by_cases c65 : 0 ≤ x60_2
        ·
         rw [if_pos c65] at H
         have c65b0 : decide (0 ≤ x60_2) = true := decide_eq_true c65
         clear c65
         by_cases c66 : x60_2 < (l1_0.length : Int)
         ·
          rw [if_pos c66] at H
          have c66b0 : decide (x60_2 < (l1_0.length : Int)) = true := decide_eq_true c66
          clear c66
          by_cases c67 : x60_2 < (l2_0.length : Int)
          ·
           rw [if_pos c67] at H
           have c67b0 : decide (x60_2 < (l2_0.length : Int)) = true := decide_eq_true c67
           clear c67
           replace H := Option.bind_eq_some_iff.mp H
           obtain ⟨t134, A680, H⟩ := H
           replace H : (if x132000_2.length < 17592186044416 then (ledger_way_both_f15.l0 k2 (l1_0.length : Int) (wrap64 (x60_2 + 1)) l1_0 a1_1 a1_2 a1_3 a1_4 a1_5 a1_6 l2_0 a2_1 a2_2 a2_3 a2_4 a2_5 a2_6 (x132000_2 ++ [t134]) t122 t127 t128 t129 t130 false) else (none)) = some (r1, r2, r3, r4, r5, r6, r7, r8) := H
           have A68 := Aside0.mk A680
           clear A680
           by_cases c69 : x132000_2.length < 17592186044416
           ·
            rw [if_pos c69] at H
            have LMc69 := Aside0.mk c69
            clear c69
            obtain ⟨y135, hy135⟩ : ∃ y_ : List Int, y_ = (x132000_2 ++ [t134]) := ⟨_, rfl⟩
            replace H : (ledger_way_both_f15.l0 k2 (l1_0.length : Int) (wrap64 (x60_2 + 1)) l1_0 a1_1 a1_2 a1_3 a1_4 a1_5 a1_6 l2_0 a2_1 a2_2 a2_3 a2_4 a2_5 a2_6 y135 t122 t127 t128 t129 t130 false) = some (r1, r2, r3, r4, r5, r6, r7, r8) := by first | (rw [hy135]; with_reducible exact H) | (have H2_ := (Option.bind_some _ _).symm.trans H; rw [hy135]; with_reducible exact H2_) | (have H2_ := (Option.bind_some _ _).symm.trans H; with_reducible exact H2_) | with_reducible exact H | (rw [hy135]; exact H) | exact H
            have Ny135 := Aside0.mk hy135
            clear hy135
            have H' := Aside0.mk H
            clear H
            try go_wp2
            have n0_ := Aside0.mk (Kd.R_drew HO_132000.out)
            have n1_ := Aside0.mk (blk_drew BK116.out)
            have n2_ := Aside0.mk (blk_drew BK117.out)
            have n3_ := Aside0.mk (blk_drew BK118.out)
            have n4_ := Aside0.mk (blk_drew BK119.out)
            have n5_ := Aside0.mk (blk_drew BK131.out)
            have n6_ := Aside0.mk (below_drew1 HB.out)
            clear HO_132000
            clear BK116
            clear BK117
            clear BK118
            clear BK119
            clear BK131
            clear HB
            have HO_132000 := n0_
            have BK116 := n1_
            have BK117 := n2_
            have BK118 := n3_
            have BK119 := n4_
            have BK131 := n5_
            have HB := n6_
            clear n0_ n1_ n2_ n3_ n4_ n5_ n6_
            have p132 : 0 ≤ (x60_2 : Int) := of_decide_eq_true (by first | (with_reducible assumption) | assumption)
            have q132 : x60_2 < (l1_0.length : Int) := of_decide_eq_true (by first | (with_reducible assumption) | assumption)
            obtain ⟨ad132, e132, hx132_0⟩ := Kd.at_int HR1_0.out x60_2 p132 q132
            have hw132_0 := hx132_0
            cases e132
            replace hx132_0 := (HB.out.cell (World.block_lt_of_cell? w _ hx132_0)).trans hx132_0
            replace p132 := eq_true p132
            replace q132 := eq_true q132
            have p133 : 0 ≤ (x60_2 : Int) := of_decide_eq_true (by first | (with_reducible assumption) | assumption)
            have q133 : x60_2 < (l2_0.length : Int) := of_decide_eq_true (by first | (with_reducible assumption) | assumption)
            obtain ⟨ad133, e133, hx133_0⟩ := Kd.at_int HR2_0.out x60_2 p133 q133
            have hw133_0 := hx133_0
            cases e133
            replace hx133_0 := (HB.out.cell (World.block_lt_of_cell? w _ hx133_0)).trans hx133_0
            replace p133 := eq_true p133
            replace q133 := eq_true q133
            refine start_ (n := 23) (S := fun w' => w'.cell? ⟨gb131, 0, none⟩ = some (u132000) ∧ w'.cell? ⟨gb131, 1, none⟩ = some (.int .i64 t122) ∧ w'.cell? ⟨gb131, 2, none⟩ = some (.int .u64 t127) ∧ w'.cell? ⟨gb131, 3, none⟩ = some (.int .u64 t128) ∧ w'.cell? ⟨gb131, 4, none⟩ = some (.int .u64 t129) ∧ w'.cell? ⟨gb131, 5, none⟩ = some (.int .u64 t130) ∧ w'.cell? ⟨gb131, 6, none⟩ = some (.bool false) ∧ w'.cell? ⟨gb116, 0, none⟩ = some (.func (.func 15) #[] #[]) ∧ w'.cell? ⟨gb116, 1, none⟩ = some (.func (.func 16) #[] #[]) ∧ w'.cell? ⟨gb117, 0, none⟩ = some (.slice (some ad132) l1_0.length c1_0) ∧ w'.cell? ⟨gb117, 1, none⟩ = some (.int .i64 a1_1) ∧ w'.cell? ⟨gb117, 2, none⟩ = some (.int .u64 a1_2) ∧ w'.cell? ⟨gb117, 3, none⟩ = some (.int .u64 a1_3) ∧ w'.cell? ⟨gb117, 4, none⟩ = some (.int .u64 a1_4) ∧ w'.cell? ⟨gb117, 5, none⟩ = some (.int .u64 a1_5) ∧ w'.cell? ⟨gb117, 6, none⟩ = some (.bool a1_6) ∧ w'.cell? ⟨gb118, 0, none⟩ = some (.slice (some ad133) l2_0.length c2_0) ∧ w'.cell? ⟨gb118, 1, none⟩ = some (.int .i64 a2_1) ∧ w'.cell? ⟨gb118, 2, none⟩ = some (.int .u64 a2_2) ∧ w'.cell? ⟨gb118, 3, none⟩ = some (.int .u64 a2_3) ∧ w'.cell? ⟨gb118, 4, none⟩ = some (.int .u64 a2_4) ∧ w'.cell? ⟨gb118, 5, none⟩ = some (.int .u64 a2_5) ∧ w'.cell? ⟨gb118, 6, none⟩ = some (.bool a2_6) ∧ w'.cell? (ad132.add (x60_2).toNat) = some (.int .i64 (rd l1_0 x60_2)) ∧ w'.cell? (ad133.add (x60_2).toNat) = some (.int .i64 (rd l2_0 x60_2))) (ds := [22]) #[F, F, F, F, F, F, F, F, F, F, F, F, F, F, F, F, F, F, F, F, F, F, F] (by kernel_rfl) rfl rfl ⟨(blk_cell BK131.out 0).trans rfl, (blk_cell BK131.out 1).trans rfl, (blk_cell BK131.out 2).trans rfl, (blk_cell BK131.out 3).trans rfl, (blk_cell BK131.out 4).trans rfl, (blk_cell BK131.out 5).trans rfl, (blk_cell BK131.out 6).trans rfl, (blk_cell BK116.out 0).trans rfl, (blk_cell BK116.out 1).trans rfl, (blk_cell BK117.out 0).trans rfl, (blk_cell BK117.out 1).trans rfl, (blk_cell BK117.out 2).trans rfl, (blk_cell BK117.out 3).trans rfl, (blk_cell BK117.out 4).trans rfl, (blk_cell BK117.out 5).trans rfl, (blk_cell BK117.out 6).trans rfl, (blk_cell BK118.out 0).trans rfl, (blk_cell BK118.out 1).trans rfl, (blk_cell BK118.out 2).trans rfl, (blk_cell BK118.out 3).trans rfl, (blk_cell BK118.out 4).trans rfl, (blk_cell BK118.out 5).trans rfl, (blk_cell BK118.out 6).trans rfl, ((HB.out.cell (World.block_lt_of_cell? w _ hw132_0)).trans hw132_0), ((HB.out.cell (World.block_lt_of_cell? w _ hw133_0)).trans hw133_0)⟩ (fun hHeld => ?_); refine with_tabW ledger_way_both_f15.tab9 ledger_way_both_f15.bits9 (fun HT_ HW_ => ?_)
            generalize wr.drew = w70 at HO_132000 BK116 BK117 BK118 BK119 BK131 HB hx132_0 hx133_0 hHeld ⊢
            refine pure_ (i := 0) (N := some 63) (v := ?_) (a' := ?_) #[T, F, F, F, F, F, F, F, F, F, F, F, F, F, F, F, F, F, F, F, F, F, F] rfl rfl (any_of HT_.out (by kernel_rfl)) (fun _ _ _ h => h) (Or.inl ⟨by rfl, ?_⟩) ?_ ?_
            rotate_left
            ·
             intro w'
             (try simp only [add_plain] at s0 s1 s2 s3 s4 s5 s6 s7 s8 s9 s10 s11 s12 s13 s14 s15 s16 s17 s18 s19 s20 s21 s22 s23 s24)
             go_simp
             with_reducible rfl
            rotate_left
            ·
             simp only [Act.put, List.setIfInBounds_toArray, List.set_cons_zero, List.set_cons_succ, i64_w, i32_w]
             rfl
            refine pure_ (i := 1) (N := some 64) (v := ?_) (a' := ?_) #[T, T, F, F, F, F, F, F, F, F, F, F, F, F, F, F, F, F, F, F, F, F, F] rfl rfl (any_of HT_.out (by kernel_rfl)) (fun _ _ _ h => h) (Or.inl ⟨by rfl, ?_⟩) ?_ ?_
            rotate_left
            ·
             intro w'
             (try simp only [add_plain] at s0 s1 s2 s3 s4 s5 s6 s7 s8 s9 s10 s11 s12 s13 s14 s15 s16 s17 s18 s19 s20 s21 s22 s23 s24)
             go_simp
             with_reducible rfl
            rotate_left
            ·
             simp only [Act.put, List.setIfInBounds_toArray, List.set_cons_zero, List.set_cons_succ, i64_w, i32_w]
             rfl
            refine pure_ (i := 3) (N := some 66) (v := ?_) (a' := ?_) #[T, T, F, T, F, F, F, F, F, F, F, F, F, F, F, F, F, F, F, F, F, F, F] rfl rfl (any_of HT_.out (by kernel_rfl)) (fun _ _ _ h => h) (Or.inl ⟨by rfl, ?_⟩) ?_ ?_
            rotate_left
            ·
             intro w'
             (try simp only [add_plain] at s0 s1 s2 s3 s4 s5 s6 s7 s8 s9 s10 s11 s12 s13 s14 s15 s16 s17 s18 s19 s20 s21 s22 s23 s24)
             go_simp
             with_reducible rfl
            rotate_left
            ·
             simp only [Act.put, List.setIfInBounds_toArray, List.set_cons_zero, List.set_cons_succ, i64_w, i32_w]
             rfl
            refine pure_ (i := 5) (N := some 68) (v := ?_) (a' := ?_) #[T, T, F, T, F, T, F, F, F, F, F, F, F, F, F, F, F, F, F, F, F, F, F] rfl rfl (any_of HT_.out (by kernel_rfl)) (fun _ _ _ h => h) (Or.inl ⟨by rfl, ?_⟩) ?_ ?_
            rotate_left
            ·
             intro w'
             (try simp only [add_plain] at s0 s1 s2 s3 s4 s5 s6 s7 s8 s9 s10 s11 s12 s13 s14 s15 s16 s17 s18 s19 s20 s21 s22 s23 s24)
             go_simp
             with_reducible rfl
            rotate_left
            ·
             simp only [Act.put, List.setIfInBounds_toArray, List.set_cons_zero, List.set_cons_succ, i64_w, i32_w]
             rfl
            refine pure_ (i := 6) (N := some 69) (v := ?_) (a' := ?_) #[T, T, F, T, F, T, T, F, F, F, F, F, F, F, F, F, F, F, F, F, F, F, F] rfl rfl (any_of HT_.out (by kernel_rfl)) (fun _ _ _ h => h) (Or.inl ⟨by rfl, ?_⟩) ?_ ?_
            rotate_left
            ·
             intro w'
             (try simp only [add_plain] at s0 s1 s2 s3 s4 s5 s6 s7 s8 s9 s10 s11 s12 s13 s14 s15 s16 s17 s18 s19 s20 s21 s22 s23 s24)
             go_simp
             with_reducible rfl
            rotate_left
            ·
             simp only [Act.put, List.setIfInBounds_toArray, List.set_cons_zero, List.set_cons_succ, i64_w, i32_w]
             rfl
            refine pure_ (i := 8) (N := some 71) (v := ?_) (a' := ?_) #[T, T, F, T, F, T, T, F, T, F, F, F, F, F, F, F, F, F, F, F, F, F, F] rfl rfl (any_of HT_.out (by kernel_rfl)) (fun _ _ _ h => h) (Or.inl ⟨by rfl, ?_⟩) ?_ ?_
            rotate_left
            ·
             intro w'
             (try simp only [add_plain] at s0 s1 s2 s3 s4 s5 s6 s7 s8 s9 s10 s11 s12 s13 s14 s15 s16 s17 s18 s19 s20 s21 s22 s23 s24)
             go_simp
             with_reducible rfl
            rotate_left
            ·
             simp only [Act.put, List.setIfInBounds_toArray, List.set_cons_zero, List.set_cons_succ, i64_w, i32_w]
             rfl
            refine pure_ (i := 11) (N := some 74) (v := ?_) (a' := ?_) #[T, T, F, T, F, T, T, F, T, F, F, T, F, F, F, F, F, F, F, F, F, F, F] rfl rfl (any_of HT_.out (by kernel_rfl)) (fun _ _ _ h => h) (Or.inl ⟨by rfl, ?_⟩) ?_ ?_
            rotate_left
            ·
             intro w'
             (try simp only [add_plain] at s0 s1 s2 s3 s4 s5 s6 s7 s8 s9 s10 s11 s12 s13 s14 s15 s16 s17 s18 s19 s20 s21 s22 s23 s24)
             go_simp
             with_reducible rfl
            rotate_left
            ·
             simp only [Act.put, List.setIfInBounds_toArray, List.set_cons_zero, List.set_cons_succ, i64_w, i32_w]
             rfl
            refine pure_ (i := 12) (N := some 75) (v := ?_) (a' := ?_) #[T, T, F, T, F, T, T, F, T, F, F, T, T, F, F, F, F, F, F, F, F, F, F] rfl rfl (any_of HT_.out (by kernel_rfl)) (fun _ _ _ h => h) (Or.inl ⟨by rfl, ?_⟩) ?_ ?_
            rotate_left
            ·
             intro w'
             (try simp only [add_plain] at s0 s1 s2 s3 s4 s5 s6 s7 s8 s9 s10 s11 s12 s13 s14 s15 s16 s17 s18 s19 s20 s21 s22 s23 s24)
             go_simp
             with_reducible rfl
            rotate_left
            ·
             simp only [Act.put, List.setIfInBounds_toArray, List.set_cons_zero, List.set_cons_succ, i64_w, i32_w]
             rfl
            refine pure_ (i := 14) (N := some 77) (v := ?_) (a' := ?_) #[T, T, F, T, F, T, T, F, T, F, F, T, T, F, T, F, F, F, F, F, F, F, F] rfl rfl (any_of HT_.out (by kernel_rfl)) (fun _ _ _ h => h) (Or.inl ⟨by rfl, ?_⟩) ?_ ?_
            rotate_left
            ·
             intro w'
             (try simp only [add_plain] at s0 s1 s2 s3 s4 s5 s6 s7 s8 s9 s10 s11 s12 s13 s14 s15 s16 s17 s18 s19 s20 s21 s22 s23 s24)
             go_simp
             with_reducible rfl
            rotate_left
            ·
             simp only [Act.put, List.setIfInBounds_toArray, List.set_cons_zero, List.set_cons_succ, i64_w, i32_w]
             rfl
            refine take_ (i := 2) (N := some 65) (v := ?_) (a' := ?_) #[T, T, T, T, F, T, T, F, T, F, F, T, T, F, T, F, F, F, F, F, F, F, F] rfl rfl (take_ofW HT_.out HW_.out (by kernel_rfl)) (fun _ _ _ h => h) (Or.inl ⟨by rfl, ?_⟩) hHeld ?_ ?_
            rotate_left
            ·
             rintro w' ⟨s0, s1, s2, s3, s4, s5, s6, s7, s8, s9, s10, s11, s12, s13, s14, s15, s16, s17, s18, s19, s20, s21, s22, s23, s24⟩
             (try simp only [add_plain] at s0 s1 s2 s3 s4 s5 s6 s7 s8 s9 s10 s11 s12 s13 s14 s15 s16 s17 s18 s19 s20 s21 s22 s23 s24)
             go_simp
             with_reducible rfl
            rotate_left
            ·
             simp only [Act.put, List.setIfInBounds_toArray, List.set_cons_zero, List.set_cons_succ, i64_w, i32_w]
             rfl
            refine take_ (i := 4) (N := some 67) (v := ?_) (a' := ?_) #[T, T, T, T, T, T, T, F, T, F, F, T, T, F, T, F, F, F, F, F, F, F, F] rfl rfl (take_ofW HT_.out HW_.out (by kernel_rfl)) (fun _ _ _ h => h) (Or.inl ⟨by rfl, ?_⟩) hHeld ?_ ?_
            rotate_left
            ·
             rintro w' ⟨s0, s1, s2, s3, s4, s5, s6, s7, s8, s9, s10, s11, s12, s13, s14, s15, s16, s17, s18, s19, s20, s21, s22, s23, s24⟩
             (try simp only [add_plain] at s0 s1 s2 s3 s4 s5 s6 s7 s8 s9 s10 s11 s12 s13 s14 s15 s16 s17 s18 s19 s20 s21 s22 s23 s24)
             go_simp
             with_reducible rfl
            rotate_left
            ·
             simp only [Act.put, List.setIfInBounds_toArray, List.set_cons_zero, List.set_cons_succ, i64_w, i32_w]
             rfl
            refine take_ (i := 7) (N := some 70) (v := ?_) (a' := ?_) #[T, T, T, T, T, T, T, T, T, F, F, T, T, F, T, F, F, F, F, F, F, F, F] rfl rfl (take_ofW HT_.out HW_.out (by kernel_rfl)) (fun _ _ _ h => h) (Or.inl ⟨by rfl, ?_⟩) hHeld ?_ ?_
            rotate_left
            ·
             rintro w' ⟨s0, s1, s2, s3, s4, s5, s6, s7, s8, s9, s10, s11, s12, s13, s14, s15, s16, s17, s18, s19, s20, s21, s22, s23, s24⟩
             (try simp only [add_plain] at s0 s1 s2 s3 s4 s5 s6 s7 s8 s9 s10 s11 s12 s13 s14 s15 s16 s17 s18 s19 s20 s21 s22 s23 s24)
             go_simp
             with_reducible rfl
            rotate_left
            ·
             simp only [Act.put, List.setIfInBounds_toArray, List.set_cons_zero, List.set_cons_succ, i64_w, i32_w]
             rfl
            refine pure_ (i := 9) (N := some 72) (v := ?_) (a' := ?_) #[T, T, T, T, T, T, T, T, T, T, F, T, T, F, T, F, F, F, F, F, F, F, F] rfl rfl (any_of HT_.out (by kernel_rfl)) (fun _ _ _ h => h) (Or.inl ⟨by rfl, ?_⟩) ?_ ?_
            rotate_left
            ·
             intro w'
             (try simp only [add_plain] at s0 s1 s2 s3 s4 s5 s6 s7 s8 s9 s10 s11 s12 s13 s14 s15 s16 s17 s18 s19 s20 s21 s22 s23 s24)
             go_simp
             with_reducible rfl
            rotate_left
            ·
             simp only [Act.put, List.setIfInBounds_toArray, List.set_cons_zero, List.set_cons_succ, i64_w, i32_w]
             rfl
            refine take_ (i := 10) (N := some 73) (v := ?_) (a' := ?_) #[T, T, T, T, T, T, T, T, T, T, T, T, T, F, T, F, F, F, F, F, F, F, F] rfl rfl (take_ofW HT_.out HW_.out (by kernel_rfl)) (fun _ _ _ h => h) (Or.inl ⟨by rfl, ?_⟩) hHeld ?_ ?_
            rotate_left
            ·
             rintro w' ⟨s0, s1, s2, s3, s4, s5, s6, s7, s8, s9, s10, s11, s12, s13, s14, s15, s16, s17, s18, s19, s20, s21, s22, s23, s24⟩
             (try simp only [add_plain] at s0 s1 s2 s3 s4 s5 s6 s7 s8 s9 s10 s11 s12 s13 s14 s15 s16 s17 s18 s19 s20 s21 s22 s23 s24)
             go_simp
             with_reducible rfl
            rotate_left
            ·
             simp only [Act.put, List.setIfInBounds_toArray, List.set_cons_zero, List.set_cons_succ, i64_w, i32_w]
             rfl
            refine take_ (i := 13) (N := some 76) (v := ?_) (a' := ?_) #[T, T, T, T, T, T, T, T, T, T, T, T, T, T, T, F, F, F, F, F, F, F, F] rfl rfl (take_ofW HT_.out HW_.out (by kernel_rfl)) (fun _ _ _ h => h) (Or.inl ⟨by rfl, ?_⟩) hHeld ?_ ?_
            rotate_left
            ·
             rintro w' ⟨s0, s1, s2, s3, s4, s5, s6, s7, s8, s9, s10, s11, s12, s13, s14, s15, s16, s17, s18, s19, s20, s21, s22, s23, s24⟩
             (try simp only [add_plain] at s0 s1 s2 s3 s4 s5 s6 s7 s8 s9 s10 s11 s12 s13 s14 s15 s16 s17 s18 s19 s20 s21 s22 s23 s24)
             go_simp
             with_reducible rfl
            rotate_left
            ·
             simp only [Act.put, List.setIfInBounds_toArray, List.set_cons_zero, List.set_cons_succ, i64_w, i32_w]
             rfl
            refine pure_ (i := 15) (N := some 78) (v := ?_) (a' := ?_) #[T, T, T, T, T, T, T, T, T, T, T, T, T, T, T, T, F, F, F, F, F, F, F] rfl rfl (any_of HT_.out (by kernel_rfl)) (fun _ _ _ h => h) (Or.inl ⟨by rfl, ?_⟩) ?_ ?_
            rotate_left
            ·
             intro w'
             (try simp only [add_plain] at s0 s1 s2 s3 s4 s5 s6 s7 s8 s9 s10 s11 s12 s13 s14 s15 s16 s17 s18 s19 s20 s21 s22 s23 s24)
             go_simp
             with_reducible rfl
            rotate_left
            ·
             simp only [Act.put, List.setIfInBounds_toArray, List.set_cons_zero, List.set_cons_succ, i64_w, i32_w]
             rfl
            refine take_ (i := 16) (N := some 79) (v := ?_) (a' := ?_) #[T, T, T, T, T, T, T, T, T, T, T, T, T, T, T, T, T, F, F, F, F, F, F] rfl rfl (take_ofW HT_.out HW_.out (by kernel_rfl)) (fun _ _ _ h => h) (Or.inl ⟨by rfl, ?_⟩) hHeld ?_ ?_
            rotate_left
            ·
             rintro w' ⟨s0, s1, s2, s3, s4, s5, s6, s7, s8, s9, s10, s11, s12, s13, s14, s15, s16, s17, s18, s19, s20, s21, s22, s23, s24⟩
             (try simp only [add_plain] at s0 s1 s2 s3 s4 s5 s6 s7 s8 s9 s10 s11 s12 s13 s14 s15 s16 s17 s18 s19 s20 s21 s22 s23 s24)
             go_simp
             with_reducible rfl
            rotate_left
            ·
             simp only [Act.put, List.setIfInBounds_toArray, List.set_cons_zero, List.set_cons_succ, i64_w, i32_w]
             rfl
            refine one_ (i := 17) (N := some 80) #[T, T, T, T, T, T, T, T, T, T, T, T, T, T, T, T, T, T, F, F, F, F, F] rfl rfl (one_of HT_.out (by kernel_rfl)) (by decide) (fun K hK => ?_)
            refine goesT_ Try.func15 (by kernel_rfl) rfl #[.int .i64 (rd l1_0 x60_2), .int .i64 (rd l2_0 x60_2)] (by rfl) rfl rfl (by first | rfl | (go_simp; done)) (by (try simp only [List.map_toArray, List.map_cons, List.map_nil]); first | done | rfl | (simp only [List.length_drop, List.length_take]; rfl)) ?_
            with_reducible refine (ledger_plus.calls (rd l1_0 x60_2) (rd l2_0 x60_2) t134 _ A68.out).mono ?_
            rintro e w71 ⟨rfl, hb⟩
            refine ⟨_, rfl, ?_⟩
            have n0_ := Aside0.mk (Kd.R_below (by (with_reducible repeat (first | apply Kd.R_alloc | apply Kd.R_drewN | apply Kd.R_drew)); exact HO_132000.out) hb)
            have n1_ := ledger_way_both_f15.keepB BK116 hb
            have n2_ := ledger_way_both_f15.keepB BK117 hb
            have n3_ := ledger_way_both_f15.keepB BK118 hb
            have n4_ := ledger_way_both_f15.keepB BK119 hb
            have n5_ := ledger_way_both_f15.keepB BK131 hb
            have n6_ := Aside0.mk (below_step (by repeat (first | (with_reducible first | exact HB.out | apply below_alloc | apply pw_below_drewN | apply below_drew1 | refine below_set ?_ GE116.out | refine below_set ?_ GE117.out | refine below_set ?_ GE118.out | refine below_set ?_ GE119.out | refine below_set ?_ GE131.out) | exact HB.out)) hb)
            clear HO_132000
            clear BK116
            clear BK117
            clear BK118
            clear BK119
            clear BK131
            clear HB
            have HO_132000 := n0_
            have BK116 := n1_
            have BK117 := n2_
            have BK118 := n3_
            have BK119 := n4_
            have BK131 := n5_
            have HB := n6_
            clear n0_ n1_ n2_ n3_ n4_ n5_ n6_
            (try clear hb)
            (try clear hb2)
            (try clear hk)
            (try clear hi)
            refine hK.out _ _ ⟨(blk_cell BK131.out 0).trans rfl, (blk_cell BK131.out 1).trans rfl, (blk_cell BK131.out 2).trans rfl, (blk_cell BK131.out 3).trans rfl, (blk_cell BK131.out 4).trans rfl, (blk_cell BK131.out 5).trans rfl, (blk_cell BK131.out 6).trans rfl, (blk_cell BK116.out 0).trans rfl, (blk_cell BK116.out 1).trans rfl, (blk_cell BK117.out 0).trans rfl, (blk_cell BK117.out 1).trans rfl, (blk_cell BK117.out 2).trans rfl, (blk_cell BK117.out 3).trans rfl, (blk_cell BK117.out 4).trans rfl, (blk_cell BK117.out 5).trans rfl, (blk_cell BK117.out 6).trans rfl, (blk_cell BK118.out 0).trans rfl, (blk_cell BK118.out 1).trans rfl, (blk_cell BK118.out 2).trans rfl, (blk_cell BK118.out 3).trans rfl, (blk_cell BK118.out 4).trans rfl, (blk_cell BK118.out 5).trans rfl, (blk_cell BK118.out 6).trans rfl, ((HB.out.cell (World.block_lt_of_cell? w _ hw132_0)).trans hw132_0), ((HB.out.cell (World.block_lt_of_cell? w _ hw133_0)).trans hw133_0)⟩ (fun hHeld => ?_)
            clear hK K
            refine norm_ (a' := ?_) ?_ ?_
            rotate_left
            ·
             show Act.put _ (some 80) _ = _
             simp only [Act.put, List.setIfInBounds_toArray, List.set_cons_zero, List.set_cons_succ, i64_w, i32_w]
             rfl
            refine one_ (i := 18) (N := some 81) #[T, T, T, T, T, T, T, T, T, T, T, T, T, T, T, T, T, T, T, F, F, F, F] rfl rfl (one_of HT_.out (by kernel_rfl)) (by decide) (fun K hK => ?_)
            refine value_ (w1 := ?_) (v := ?_) (by rfl) rfl ?_ ?_
            rotate_left 2
            ·
             go_simp
             constructor
             ·
              rfl
             ·
              rfl
            refine hK.out _ _ ⟨(blk_cell (blk_alloc BK131.out _) 0).trans rfl, (blk_cell (blk_alloc BK131.out _) 1).trans rfl, (blk_cell (blk_alloc BK131.out _) 2).trans rfl, (blk_cell (blk_alloc BK131.out _) 3).trans rfl, (blk_cell (blk_alloc BK131.out _) 4).trans rfl, (blk_cell (blk_alloc BK131.out _) 5).trans rfl, (blk_cell (blk_alloc BK131.out _) 6).trans rfl, (blk_cell (blk_alloc BK116.out _) 0).trans rfl, (blk_cell (blk_alloc BK116.out _) 1).trans rfl, (blk_cell (blk_alloc BK117.out _) 0).trans rfl, (blk_cell (blk_alloc BK117.out _) 1).trans rfl, (blk_cell (blk_alloc BK117.out _) 2).trans rfl, (blk_cell (blk_alloc BK117.out _) 3).trans rfl, (blk_cell (blk_alloc BK117.out _) 4).trans rfl, (blk_cell (blk_alloc BK117.out _) 5).trans rfl, (blk_cell (blk_alloc BK117.out _) 6).trans rfl, (blk_cell (blk_alloc BK118.out _) 0).trans rfl, (blk_cell (blk_alloc BK118.out _) 1).trans rfl, (blk_cell (blk_alloc BK118.out _) 2).trans rfl, (blk_cell (blk_alloc BK118.out _) 3).trans rfl, (blk_cell (blk_alloc BK118.out _) 4).trans rfl, (blk_cell (blk_alloc BK118.out _) 5).trans rfl, (blk_cell (blk_alloc BK118.out _) 6).trans rfl, (World.cell?_alloc_lt _ _ _ (World.block_lt_of_cell? _ _ (((HB.out.cell (World.block_lt_of_cell? w _ hw132_0)).trans hw132_0)))).trans (((HB.out.cell (World.block_lt_of_cell? w _ hw132_0)).trans hw132_0)), (World.cell?_alloc_lt _ _ _ (World.block_lt_of_cell? _ _ (((HB.out.cell (World.block_lt_of_cell? w _ hw133_0)).trans hw133_0)))).trans (((HB.out.cell (World.block_lt_of_cell? w _ hw133_0)).trans hw133_0))⟩ (fun hHeld => ?_)
            clear hK K
            refine norm_ (a' := ?_) ?_ ?_
            rotate_left
            ·
             show Act.put _ (some 81) _ = _
             simp only [Act.put, List.setIfInBounds_toArray, List.set_cons_zero, List.set_cons_succ, i64_w, i32_w]
             rfl
            refine one_ (i := 19) (N := some 82) #[T, T, T, T, T, T, T, T, T, T, T, T, T, T, T, T, T, T, T, T, F, F, F] rfl rfl (one_of HT_.out (by kernel_rfl)) (by decide) (fun K hK => ?_)
            refine Kd.R_append_step (Kd.int .i64) (w0 := w) w.heap.size (by rfl) (.tmp 65) (.tmp 81) 22 3 (.int .i64 0) 8 rfl Try.underlying22 info3 rfl (by decide) (by omega) u132000 x132000_2 t134 [.int .i64 t134] (fun _ => True) (fun _ => False) rfl rfl ?aP (fun _ hk => hk.elim) ?aF ?aO ?aB ?aS ?aL ?_
            (case aP => exact rfl)
            (case aB => exact (by repeat (first | (with_reducible first | exact HB.out | apply below_alloc | apply pw_below_drewN | apply below_drew1 | refine below_set ?_ GE116.out | refine below_set ?_ GE117.out | refine below_set ?_ GE118.out | refine below_set ?_ GE119.out | refine below_set ?_ GE131.out) | exact HB.out)))
            (case aF => exact (fun _ _ => trivial))
            (case aO => exact (by (with_reducible repeat (first | apply Kd.R_alloc | apply Kd.R_drewN | apply Kd.R_drew)); exact HO_132000.out))
            (case aS => exact (below_size (by repeat (first | (with_reducible first | exact HB.out | apply below_alloc | apply pw_below_drewN | apply below_drew1 | refine below_set ?_ GE116.out | refine below_set ?_ GE117.out | refine below_set ?_ GE118.out | refine below_set ?_ GE119.out | refine below_set ?_ GE131.out) | exact HB.out))))
            (case aL => have := LMc69.out; omega)
            intro v136 w72 ho hb hg hat
            rw [← Ny135.out] at ho
            have n0_ := Aside0.mk (blk_grown (g := gb116) (o := .cells #[.func (.func 15) #[] #[], .func (.func 16) #[] #[]] 45 (0, 0)) (by (with_reducible repeat (first | refine blk_drewN ?_ _ | refine blk_drew ?_ | refine blk_alloc ?_ _)); exact BK116.out) hg (Kd.R_ne HO_132000.out BK116.out (by decide)))
            have n1_ := Aside0.mk (blk_grown (g := gb117) (o := .cells #[.slice (some ad132) l1_0.length c1_0, .int .i64 a1_1, .int .u64 a1_2, .int .u64 a1_3, .int .u64 a1_4, .int .u64 a1_5, .bool a1_6] 48 (0, 0)) (by (with_reducible repeat (first | refine blk_drewN ?_ _ | refine blk_drew ?_ | refine blk_alloc ?_ _)); exact BK117.out) hg (Kd.R_ne HO_132000.out BK117.out (by decide)))
            have n2_ := Aside0.mk (blk_grown (g := gb118) (o := .cells #[.slice (some ad133) l2_0.length c2_0, .int .i64 a2_1, .int .u64 a2_2, .int .u64 a2_3, .int .u64 a2_4, .int .u64 a2_5, .bool a2_6] 48 (0, 0)) (by (with_reducible repeat (first | refine blk_drewN ?_ _ | refine blk_drew ?_ | refine blk_alloc ?_ _)); exact BK118.out) hg (Kd.R_ne HO_132000.out BK118.out (by decide)))
            have n3_ := Aside0.mk (blk_grown (g := gb119) (o := .cells #[.slice none 0 0, .int .i64 0, .int .u64 0, .int .u64 0, .int .u64 0, .int .u64 0, .bool false] 27 (0, 0)) (by (with_reducible repeat (first | refine blk_drewN ?_ _ | refine blk_drew ?_ | refine blk_alloc ?_ _)); exact BK119.out) hg (Kd.R_ne HO_132000.out BK119.out (by decide)))
            have n4_ := Aside0.mk (blk_grown (g := gb131) (o := .cells #[u132000, .int .i64 t122, .int .u64 t127, .int .u64 t128, .int .u64 t129, .int .u64 t130, .bool false] 48 (0, 0)) (by (with_reducible repeat (first | refine blk_drewN ?_ _ | refine blk_drew ?_ | refine blk_alloc ?_ _)); exact BK131.out) hg (Kd.R_ne HO_132000.out BK131.out (by decide)))
            have n5_ := Aside0.mk (hb)
            have n6_ := Aside0.mk (ho)
            clear BK116
            clear BK117
            clear BK118
            clear BK119
            clear BK131
            clear HB
            clear HO_132000
            have BK116 := n0_
            have BK117 := n1_
            have BK118 := n2_
            have BK119 := n3_
            have BK131 := n4_
            have HB := n5_
            have HO137 := n6_
            clear n0_ n1_ n2_ n3_ n4_ n5_ n6_
            clear ho hb hg hat
            obtain ⟨Ao73, co73, eo73⟩ := Kd.R_slice HO137.out
            (first | subst eo73 | (injection eo73 with f1_ f2_ f3_; have f4_ := f1_.symm; have f5_ := f3_.symm; clear f1_ f2_ f3_; subst f4_; subst f5_))
            refine hK.out _ _ ⟨(blk_cell BK131.out 0).trans rfl, (blk_cell BK131.out 1).trans rfl, (blk_cell BK131.out 2).trans rfl, (blk_cell BK131.out 3).trans rfl, (blk_cell BK131.out 4).trans rfl, (blk_cell BK131.out 5).trans rfl, (blk_cell BK131.out 6).trans rfl, (blk_cell BK116.out 0).trans rfl, (blk_cell BK116.out 1).trans rfl, (blk_cell BK117.out 0).trans rfl, (blk_cell BK117.out 1).trans rfl, (blk_cell BK117.out 2).trans rfl, (blk_cell BK117.out 3).trans rfl, (blk_cell BK117.out 4).trans rfl, (blk_cell BK117.out 5).trans rfl, (blk_cell BK117.out 6).trans rfl, (blk_cell BK118.out 0).trans rfl, (blk_cell BK118.out 1).trans rfl, (blk_cell BK118.out 2).trans rfl, (blk_cell BK118.out 3).trans rfl, (blk_cell BK118.out 4).trans rfl, (blk_cell BK118.out 5).trans rfl, (blk_cell BK118.out 6).trans rfl, ((HB.out.cell (World.block_lt_of_cell? w _ hw132_0)).trans hw132_0), ((HB.out.cell (World.block_lt_of_cell? w _ hw133_0)).trans hw133_0)⟩ (fun hHeld => ?_)
            clear hK K
            refine norm_ (a' := ?_) ?_ ?_
            rotate_left
            ·
             show Act.put _ (some 82) _ = _
             simp only [Act.put, List.setIfInBounds_toArray, List.set_cons_zero, List.set_cons_succ, i64_w, i32_w]
             rfl
            refine pure_ (i := 20) (N := some 83) (v := ?_) (a' := ?_) #[T, T, T, T, T, T, T, T, T, T, T, T, T, T, T, T, T, T, T, T, T, F, F] rfl rfl (any_of HT_.out (by kernel_rfl)) (fun _ _ _ h => h) (Or.inl ⟨by rfl, ?_⟩) ?_ ?_
            rotate_left
            ·
             intro w'
             (try simp only [add_plain] at s0 s1 s2 s3 s4 s5 s6 s7 s8 s9 s10 s11 s12 s13 s14 s15 s16 s17 s18 s19 s20 s21 s22 s23 s24)
             go_simp
             with_reducible rfl
            rotate_left
            ·
             simp only [Act.put, List.setIfInBounds_toArray, List.set_cons_zero, List.set_cons_succ, i64_w, i32_w]
             rfl
            refine pure_ (i := 21) (N := some 84) (v := ?_) (a' := ?_) #[T, T, T, T, T, T, T, T, T, T, T, T, T, T, T, T, T, T, T, T, T, T, F] rfl rfl (any_of HT_.out (by kernel_rfl)) (fun _ _ _ h => h) (Or.inl ⟨by rfl, ?_⟩) ?_ ?_
            rotate_left
            ·
             intro w'
             (try simp only [add_plain] at s0 s1 s2 s3 s4 s5 s6 s7 s8 s9 s10 s11 s12 s13 s14 s15 s16 s17 s18 s19 s20 s21 s22 s23 s24)
             go_simp
             with_reducible rfl
            rotate_left
            ·
             simp only [Act.put, List.setIfInBounds_toArray, List.set_cons_zero, List.set_cons_succ, i64_w, i32_w]
             rfl
            refine last_ (i := 22) (N := none) #[T, T, T, T, T, T, T, T, T, T, T, T, T, T, T, T, T, T, T, T, T, T, T] rfl rfl (one_of HT_.out (by kernel_rfl)) (by decide) (fun K hK => ?_)
            have hs74 : w72.cell? ⟨gb131, 0, none⟩ = some (u132000) := (blk_cell BK131.out 0).trans rfl
            have hfs74 := blk_frozen BK131.out 0
            have hns74_0 := NB116_131.out
            have hns74_1 := NB117_131.out
            have hns74_2 := NB118_131.out
            have hns74_3 := NB119_131.out
            have hms74_0 := NB131_116.out
            have hms74_1 := NB131_117.out
            have hms74_2 := NB131_118.out
            have hms74_3 := NB131_119.out
            refine skip_ (w1 := ?_) ?_ ?_ ?_ ?_
            rotate_left
            · rfl
            · rfl
            ·
              go_simp
              rfl
            refine hK.out _ _ ?_
            clear hK K
            refine done_ (done_of HT_.out (by kernel_rfl)) ?_
            try go_wp2
            go_roundg k2
            case measure => have := HJ4.out; have := HK2.out; omega
            case rel => exact ⟨(wrap64 (x60_2 + 1)), (y135), (.slice Ao73 y135.length co73), (by first | rfl | (simp; done) | (simp [*]; done)), H', ⟨by have := HJ4.out; have := HK2.out; omega⟩, ⟨by (with_reducible repeat (first | apply Kd.R_alloc | apply Kd.R_drewN | apply Kd.R_drew)); exact Kd.R_mono (Kd.R_far (p := ⟨gb131, 0, none⟩) (Kd.R_types HO137.out BK131.out (by decide)) (fun _ hk => hk.2) (.slice Ao73 y135.length co73)) (fun _ hk => trivial)⟩, ⟨by (with_reducible repeat (first | refine blk_drewN ?_ _ | refine blk_drew ?_ | refine blk_alloc ?_ _)); refine blk_far ?_ NB116_131.out _; (with_reducible repeat (first | refine blk_drewN ?_ _ | refine blk_drew ?_ | refine blk_alloc ?_ _)); exact BK116.out⟩, ⟨by (with_reducible repeat (first | refine blk_drewN ?_ _ | refine blk_drew ?_ | refine blk_alloc ?_ _)); refine blk_far ?_ NB117_131.out _; (with_reducible repeat (first | refine blk_drewN ?_ _ | refine blk_drew ?_ | refine blk_alloc ?_ _)); exact BK117.out⟩, ⟨by (with_reducible repeat (first | refine blk_drewN ?_ _ | refine blk_drew ?_ | refine blk_alloc ?_ _)); refine blk_far ?_ NB118_131.out _; (with_reducible repeat (first | refine blk_drewN ?_ _ | refine blk_drew ?_ | refine blk_alloc ?_ _)); exact BK118.out⟩, ⟨by (with_reducible repeat (first | refine blk_drewN ?_ _ | refine blk_drew ?_ | refine blk_alloc ?_ _)); refine blk_far ?_ NB119_131.out _; (with_reducible repeat (first | refine blk_drewN ?_ _ | refine blk_drew ?_ | refine blk_alloc ?_ _)); exact BK119.out⟩, ⟨by (with_reducible repeat (first | refine blk_drewN ?_ _ | refine blk_drew ?_ | refine blk_alloc ?_ _)); refine blk_put (cs := #[u132000, .int .i64 t122, .int .u64 t127, .int .u64 t128, .int .u64 t129, .int .u64 t130, .bool false]) ?_ 0 _ rfl; (with_reducible repeat (first | refine blk_drewN ?_ _ | refine blk_drew ?_ | refine blk_alloc ?_ _)); exact BK131.out⟩, ⟨by repeat (first | (with_reducible first | exact HB.out | apply below_alloc | apply pw_below_drewN | apply below_drew1 | refine below_set ?_ GE116.out | refine below_set ?_ GE117.out | refine below_set ?_ GE118.out | refine below_set ?_ GE119.out | refine below_set ?_ GE131.out) | exact HB.out)⟩⟩
           ·
            rw [if_neg c69] at H
            exact absurd H (by simp)
          ·
           rw [if_neg c67] at H
           exact absurd H (by simp)
         ·
          rw [if_neg c66] at H
          exact absurd H (by simp)
        ·
         rw [if_neg c65] at H
         exact absurd H (by simp)
       ·
        rw [if_neg c64] at H
        have c64b0 : decide (x60_2 < (l1_0.length : Int)) = false := decide_eq_false c64
        clear c64
        replace H := Option.bind_eq_some_iff.mp H
        obtain ⟨t138, A750, H⟩ := H
        replace H : (if t138 = true then (if (t127 / 9223372036854775808) = 1 then ((wide_Neg.f t127 t128).bind fun bt139 => (some (x132000_2, t122, bt139.1, bt139.2, t129, t130, ((t127 / 9223372036854775808) == 1), 0))) else (some (x132000_2, t122, t127, t128, t129, t130, ((t127 / 9223372036854775808) == 1), 0))) else (some (([] : List Int), 0, 0, 0, 0, 0, false, 4))) = some (r1, r2, r3, r4, r5, r6, r7, r8) := H
        have A75 := Aside0.mk A750
        clear A750
        by_cases c76 : t138 = true
        ·
         subst c76
         have H1 : (if (t127 / 9223372036854775808) = 1 then ((wide_Neg.f t127 t128).bind fun bt139 => (some (x132000_2, t122, bt139.1, bt139.2, t129, t130, ((t127 / 9223372036854775808) == 1), 0))) else (some (x132000_2, t122, t127, t128, t129, t130, ((t127 / 9223372036854775808) == 1), 0))) = some (r1, r2, r3, r4, r5, r6, r7, r8) := by rw [if_pos rfl] at H; exact H
         clear H
         have H := H1
         clear H1
         by_cases c77 : (t127 / 9223372036854775808) = 1
         ·
          rw [if_pos c77] at H
          have c77b0 : ((t127 / 9223372036854775808) == 1) = true := beq_iff_eq.mpr c77
          (try rw [c77b0] at H)
          have c77b1 : ((t127 / 9223372036854775808) != 1) = false := bne_eq_false_iff_eq.mpr c77
          clear c77
          replace H := Option.bind_eq_some_iff.mp H
          obtain ⟨⟨t139, t140⟩, A780, H⟩ := H
          replace H : (some (x132000_2, t122, t139, t140, t129, t130, true, 0)) = some (r1, r2, r3, r4, r5, r6, r7, r8) := H
          have A78 := Aside0.mk A780
          clear A780
          simp only [Option.some.injEq, Prod.mk.injEq] at H
          obtain ⟨rfl, rfl, rfl, rfl, rfl, rfl, rfl, rfl⟩ := H
          have hnb79 := NB131_116.out
          have hnc79 := NB116_131.out
          have hnb80 := NB131_117.out
          have hnc80 := NB117_131.out
          have hnb81 := NB131_118.out
          have hnc81 := NB118_131.out
          have hnb82 := NB131_119.out
          have hnc82 := NB119_131.out
          have hcz83_0 : wr.cell? ⟨gb131, 0, none⟩ = some (u132000) := (blk_cell BK131.out 0).trans rfl
          have hcz83_1 : wr.cell? ⟨gb131, 1, none⟩ = some (.int .i64 t122) := (blk_cell BK131.out 1).trans rfl
          have hcz83_2 : wr.cell? ⟨gb131, 2, none⟩ = some (.int .u64 t127) := (blk_cell BK131.out 2).trans rfl
          have hcz83_3 : wr.cell? ⟨gb131, 3, none⟩ = some (.int .u64 t128) := (blk_cell BK131.out 3).trans rfl
          have hcz83_4 : wr.cell? ⟨gb131, 4, none⟩ = some (.int .u64 t129) := (blk_cell BK131.out 4).trans rfl
          have hcz83_5 : wr.cell? ⟨gb131, 5, none⟩ = some (.int .u64 t130) := (blk_cell BK131.out 5).trans rfl
          have hcz83_6 : wr.cell? ⟨gb131, 6, none⟩ = some (.bool false) := (blk_cell BK131.out 6).trans rfl
          have hfz83_0 := blk_frozen BK131.out 0
          have hfz83_1 := blk_frozen BK131.out 1
          have hfz83_2 := blk_frozen BK131.out 2
          have hfz83_3 := blk_frozen BK131.out 3
          have hfz83_4 := blk_frozen BK131.out 4
          have hfz83_5 := blk_frozen BK131.out 5
          have hfz83_6 := blk_frozen BK131.out 6
          obtain ⟨Ao84, co84, eo84⟩ := Kd.R_slice HO_132000.out
          subst eo84
          go_wp2_with (first | ((with_reducible refine gate_callee (f := 31) rfl ?_); refine goesL_ (some 87) rfl rfl Try.func31 (by kernel_rfl) rfl #[.agg #[.slice Ao84 x132000_2.length co84, .int .i64 t122, .int .u64 t127, .int .u64 t128, .int .u64 t129, .int .u64 t130, .bool false]] rfl (by (try simp only [List.map_toArray, List.map_cons, List.map_nil]); first | done | rfl | (simp only [List.length_drop, List.length_take]; rfl)) ?_; (with_reducible refine (ledger_entry_right.calls k2 _ _ x132000_2 t122 t127 t128 t129 t130 false true _ ?side1 ?side2 A75.out).mono ?_); (case side1 => repeat (first | exact (Kd.R_reads' HO_132000.out).2.2 | (with_reducible refine Kd.C_alloc ?_ _) | (with_reducible refine Kd.C_drewN ?_ _) | (with_reducible refine Kd.C_drew ?_))); (case side2 => exact (Kd.R_reads' HO_132000.out).2.1); rintro e w85 ⟨rfl, hb⟩; refine ⟨_, rfl, ?_⟩; have n0_ := Aside0.mk (Kd.R_below (by (with_reducible repeat (first | apply Kd.R_alloc | apply Kd.R_drewN | apply Kd.R_drew)); exact HO_132000.out) hb); have n1_ := ledger_way_both_f15.keepB BK116 hb; have n2_ := ledger_way_both_f15.keepB BK117 hb; have n3_ := ledger_way_both_f15.keepB BK118 hb; have n4_ := ledger_way_both_f15.keepB BK119 hb; have n5_ := ledger_way_both_f15.keepB BK131 hb; have n6_ := Aside0.mk (below_step (by repeat (first | (with_reducible first | exact HB.out | apply below_alloc | apply pw_below_drewN | apply below_drew1 | refine below_set ?_ GE116.out | refine below_set ?_ GE117.out | refine below_set ?_ GE118.out | refine below_set ?_ GE119.out | refine below_set ?_ GE131.out) | exact HB.out)) hb); clear HO_132000; clear BK116; clear BK117; clear BK118; clear BK119; clear BK131; clear HB; have HO_132000 := n0_; have BK116 := n1_; have BK117 := n2_; have BK118 := n3_; have BK119 := n4_; have BK131 := n5_; have HB := n6_; clear n0_ n1_ n2_ n3_ n4_ n5_ n6_; (try clear hb); (try clear hb2); (try clear hk); (try clear hi); have hcz86_0 : w85.cell? ⟨gb131, 0, none⟩ = some (.slice Ao84 x132000_2.length co84) := (blk_cell BK131.out 0).trans rfl; have hcz86_1 : w85.cell? ⟨gb131, 1, none⟩ = some (.int .i64 t122) := (blk_cell BK131.out 1).trans rfl; have hcz86_2 : w85.cell? ⟨gb131, 2, none⟩ = some (.int .u64 t127) := (blk_cell BK131.out 2).trans rfl; have hcz86_3 : w85.cell? ⟨gb131, 3, none⟩ = some (.int .u64 t128) := (blk_cell BK131.out 3).trans rfl; have hcz86_4 : w85.cell? ⟨gb131, 4, none⟩ = some (.int .u64 t129) := (blk_cell BK131.out 4).trans rfl; have hcz86_5 : w85.cell? ⟨gb131, 5, none⟩ = some (.int .u64 t130) := (blk_cell BK131.out 5).trans rfl; have hcz86_6 : w85.cell? ⟨gb131, 6, none⟩ = some (.bool false) := (blk_cell BK131.out 6).trans rfl; have hfz86_0 := blk_frozen BK131.out 0; have hfz86_1 := blk_frozen BK131.out 1; have hfz86_2 := blk_frozen BK131.out 2; have hfz86_3 := blk_frozen BK131.out 3; have hfz86_4 := blk_frozen BK131.out 4; have hfz86_5 := blk_frozen BK131.out 5; have hfz86_6 := blk_frozen BK131.out 6) | ((with_reducible refine gate_callee (f := 33) rfl ?_); refine goesL_ (some 104) rfl rfl Try.func33 (by kernel_rfl) rfl #[.agg #[.int .u64 t127, .int .u64 t128]] rfl (by (try simp only [List.map_toArray, List.map_cons, List.map_nil]); first | done | rfl | (simp only [List.length_drop, List.length_take]; rfl)) ?_; (with_reducible refine (wide_Neg.calls t127 t128 t139 t140 _ A78.out).mono ?_); rintro e w87 ⟨rfl, hb⟩; refine ⟨_, rfl, ?_⟩; have n0_ := Aside0.mk (Kd.R_below (by (with_reducible repeat (first | apply Kd.R_alloc | apply Kd.R_drewN | apply Kd.R_drew)); exact (Kd.R_mono (Kd.R_far (p := ⟨gb131, 6, none⟩) (Kd.R_types HO_132000.out BK131.out (by decide)) (fun _ hk => hk.2) (.bool true)) (fun _ h_ => h_.1))) hb); have n1_ := Aside0.mk (blk_below (g := gb116) (o := .cells #[.func (.func 15) #[] #[], .func (.func 16) #[] #[]] 45 (0, 0)) (by (with_reducible repeat (first | refine blk_drewN ?_ _ | refine blk_drew ?_ | refine blk_alloc ?_ _)); refine blk_far ?_ NB116_131.out _; (with_reducible repeat (first | refine blk_drewN ?_ _ | refine blk_drew ?_ | refine blk_alloc ?_ _)); exact BK116.out) hb); have n2_ := Aside0.mk (blk_below (g := gb117) (o := .cells #[.slice A1_0 l1_0.length c1_0, .int .i64 a1_1, .int .u64 a1_2, .int .u64 a1_3, .int .u64 a1_4, .int .u64 a1_5, .bool a1_6] 48 (0, 0)) (by (with_reducible repeat (first | refine blk_drewN ?_ _ | refine blk_drew ?_ | refine blk_alloc ?_ _)); refine blk_far ?_ NB117_131.out _; (with_reducible repeat (first | refine blk_drewN ?_ _ | refine blk_drew ?_ | refine blk_alloc ?_ _)); exact BK117.out) hb); have n3_ := Aside0.mk (blk_below (g := gb118) (o := .cells #[.slice A2_0 l2_0.length c2_0, .int .i64 a2_1, .int .u64 a2_2, .int .u64 a2_3, .int .u64 a2_4, .int .u64 a2_5, .bool a2_6] 48 (0, 0)) (by (with_reducible repeat (first | refine blk_drewN ?_ _ | refine blk_drew ?_ | refine blk_alloc ?_ _)); refine blk_far ?_ NB118_131.out _; (with_reducible repeat (first | refine blk_drewN ?_ _ | refine blk_drew ?_ | refine blk_alloc ?_ _)); exact BK118.out) hb); have n4_ := Aside0.mk (blk_below (g := gb119) (o := .cells #[.slice none 0 0, .int .i64 0, .int .u64 0, .int .u64 0, .int .u64 0, .int .u64 0, .bool false] 27 (0, 0)) (by (with_reducible repeat (first | refine blk_drewN ?_ _ | refine blk_drew ?_ | refine blk_alloc ?_ _)); refine blk_far ?_ NB119_131.out _; (with_reducible repeat (first | refine blk_drewN ?_ _ | refine blk_drew ?_ | refine blk_alloc ?_ _)); exact BK119.out) hb); have n5_ := Aside0.mk (blk_below (g := gb131) (o := .cells #[.slice Ao84 x132000_2.length co84, .int .i64 t122, .int .u64 t127, .int .u64 t128, .int .u64 t129, .int .u64 t130, .bool true] 48 (0, 0)) (by (with_reducible repeat (first | refine blk_drewN ?_ _ | refine blk_drew ?_ | refine blk_alloc ?_ _)); refine blk_put (cs := #[.slice Ao84 x132000_2.length co84, .int .i64 t122, .int .u64 t127, .int .u64 t128, .int .u64 t129, .int .u64 t130, .bool false]) ?_ 6 _ rfl; (with_reducible repeat (first | refine blk_drewN ?_ _ | refine blk_drew ?_ | refine blk_alloc ?_ _)); exact BK131.out) hb); have n6_ := Aside0.mk (below_step (by repeat (first | (with_reducible first | exact HB.out | apply below_alloc | apply pw_below_drewN | apply below_drew1 | refine below_set ?_ GE116.out | refine below_set ?_ GE117.out | refine below_set ?_ GE118.out | refine below_set ?_ GE119.out | refine below_set ?_ GE131.out) | exact HB.out)) hb); clear HO_132000; clear BK116; clear BK117; clear BK118; clear BK119; clear BK131; clear HB; have HO_132000 := n0_; have BK116 := n1_; have BK117 := n2_; have BK118 := n3_; have BK119 := n4_; have BK131 := n5_; have HB := n6_; clear n0_ n1_ n2_ n3_ n4_ n5_ n6_; (try clear hb); (try clear hb2); (try clear hk); (try clear hi); have hcz88_0 : w87.cell? ⟨gb131, 0, none⟩ = some (.slice Ao84 x132000_2.length co84) := (blk_cell BK131.out 0).trans rfl; have hcz88_1 : w87.cell? ⟨gb131, 1, none⟩ = some (.int .i64 t122) := (blk_cell BK131.out 1).trans rfl; have hcz88_2 : w87.cell? ⟨gb131, 2, none⟩ = some (.int .u64 t127) := (blk_cell BK131.out 2).trans rfl; have hcz88_3 : w87.cell? ⟨gb131, 3, none⟩ = some (.int .u64 t128) := (blk_cell BK131.out 3).trans rfl; have hcz88_4 : w87.cell? ⟨gb131, 4, none⟩ = some (.int .u64 t129) := (blk_cell BK131.out 4).trans rfl; have hcz88_5 : w87.cell? ⟨gb131, 5, none⟩ = some (.int .u64 t130) := (blk_cell BK131.out 5).trans rfl; have hcz88_6 : w87.cell? ⟨gb131, 6, none⟩ = some (.bool true) := (blk_cell BK131.out 6).trans rfl; have hfz88_0 := blk_frozen BK131.out 0; have hfz88_1 := blk_frozen BK131.out 1; have hfz88_2 := blk_frozen BK131.out 2; have hfz88_3 := blk_frozen BK131.out 3; have hfz88_4 := blk_frozen BK131.out 4; have hfz88_5 := blk_frozen BK131.out 5; have hfz88_6 := blk_frozen BK131.out 6; have hnb89 := NB119_116.out; have hnc89 := NB116_119.out; have hnb90 := NB119_117.out; have hnc90 := NB117_119.out; have hnb91 := NB119_118.out; have hnc91 := NB118_119.out; have hcz92_0 : w87.cell? ⟨gb119, 0, none⟩ = some (.slice none 0 0) := (blk_cell BK119.out 0).trans rfl; have hcz92_1 : w87.cell? ⟨gb119, 1, none⟩ = some (.int .i64 0) := (blk_cell BK119.out 1).trans rfl; have hcz92_2 : w87.cell? ⟨gb119, 2, none⟩ = some (.int .u64 0) := (blk_cell BK119.out 2).trans rfl; have hcz92_3 : w87.cell? ⟨gb119, 3, none⟩ = some (.int .u64 0) := (blk_cell BK119.out 3).trans rfl; have hcz92_4 : w87.cell? ⟨gb119, 4, none⟩ = some (.int .u64 0) := (blk_cell BK119.out 4).trans rfl; have hcz92_5 : w87.cell? ⟨gb119, 5, none⟩ = some (.int .u64 0) := (blk_cell BK119.out 5).trans rfl; have hcz92_6 : w87.cell? ⟨gb119, 6, none⟩ = some (.bool false) := (blk_cell BK119.out 6).trans rfl; have hfz92_0 := blk_frozen BK119.out 0; have hfz92_1 := blk_frozen BK119.out 1; have hfz92_2 := blk_frozen BK119.out 2; have hfz92_3 := blk_frozen BK119.out 3; have hfz92_4 := blk_frozen BK119.out 4; have hfz92_5 := blk_frozen BK119.out 5; have hfz92_6 := blk_frozen BK119.out 6))
          refine bodyPost_ret (results_ct rfl _ _ gb119 27 #[.slice Ao84 x132000_2.length co84, .int .i64 t122, .int .u64 t139, .int .u64 t140, .int .u64 t129, .int .u64 t130, .bool true] (0, 0) _ rfl (by (with_reducible repeat (first | refine blk_drewN ?_ _ | refine blk_drew ?_ | refine blk_alloc ?_ _)); refine blk_put (cs := #[.slice Ao84 x132000_2.length co84, .int .i64 t122, .int .u64 t139, .int .u64 t140, .int .u64 t129, .int .u64 t130, .bool false]) ?_ 6 _ rfl; (with_reducible repeat (first | refine blk_drewN ?_ _ | refine blk_drew ?_ | refine blk_alloc ?_ _)); refine blk_put (cs := #[.slice Ao84 x132000_2.length co84, .int .i64 t122, .int .u64 t139, .int .u64 t140, .int .u64 t129, .int .u64 0, .bool false]) ?_ 5 _ rfl; (with_reducible repeat (first | refine blk_drewN ?_ _ | refine blk_drew ?_ | refine blk_alloc ?_ _)); refine blk_put (cs := #[.slice Ao84 x132000_2.length co84, .int .i64 t122, .int .u64 t139, .int .u64 t140, .int .u64 0, .int .u64 0, .bool false]) ?_ 4 _ rfl; (with_reducible repeat (first | refine blk_drewN ?_ _ | refine blk_drew ?_ | refine blk_alloc ?_ _)); refine blk_put (cs := #[.slice Ao84 x132000_2.length co84, .int .i64 t122, .int .u64 t139, .int .u64 0, .int .u64 0, .int .u64 0, .bool false]) ?_ 3 _ rfl; (with_reducible repeat (first | refine blk_drewN ?_ _ | refine blk_drew ?_ | refine blk_alloc ?_ _)); refine blk_put (cs := #[.slice Ao84 x132000_2.length co84, .int .i64 t122, .int .u64 0, .int .u64 0, .int .u64 0, .int .u64 0, .bool false]) ?_ 2 _ rfl; (with_reducible repeat (first | refine blk_drewN ?_ _ | refine blk_drew ?_ | refine blk_alloc ?_ _)); refine blk_put (cs := #[.slice Ao84 x132000_2.length co84, .int .i64 0, .int .u64 0, .int .u64 0, .int .u64 0, .int .u64 0, .bool false]) ?_ 1 _ rfl; (with_reducible repeat (first | refine blk_drewN ?_ _ | refine blk_drew ?_ | refine blk_alloc ?_ _)); refine blk_put (cs := #[.slice none 0 0, .int .i64 0, .int .u64 0, .int .u64 0, .int .u64 0, .int .u64 0, .bool false]) ?_ 0 _ rfl; (repeat (first | (with_reducible first | refine blk_drewN ?_ _ | refine blk_drew ?_ | refine blk_alloc ?_ _) | refine blk_far ?_ NB119_131.out _)); (with_reducible repeat (first | refine blk_drewN ?_ _ | refine blk_drew ?_ | refine blk_alloc ?_ _)); exact BK119.out) Try.underlying27 rfl (by kernel_rfl)) rfl ?_
          exact ⟨_, by first | rfl | (simp [errW_none, errW_some] <;> rfl) | (simp [*, errW_none, errW_some] <;> rfl), by (with_reducible repeat (first | apply Kd.R_alloc | apply Kd.R_drewN | apply Kd.R_drew)); exact Kd.R_mono (Kd.R_far (p := ⟨gb119, 6, none⟩) (Kd.R_far (p := ⟨gb119, 5, none⟩) (Kd.R_far (p := ⟨gb119, 4, none⟩) (Kd.R_far (p := ⟨gb119, 3, none⟩) (Kd.R_far (p := ⟨gb119, 2, none⟩) (Kd.R_far (p := ⟨gb119, 1, none⟩) (Kd.R_far (p := ⟨gb119, 0, none⟩) (Kd.R_far (p := ⟨gb131, 3, none⟩) (Kd.R_far (p := ⟨gb131, 2, none⟩) (Kd.R_types (Kd.R_types HO_132000.out BK131.out (by decide)) BK119.out (by decide)) (fun _ hk => hk.1.2) (.int .u64 t139)) (fun _ hk => hk.1.2) (.int .u64 t140)) (fun _ hk => hk.2) (.slice Ao84 x132000_2.length co84)) (fun _ hk => hk.2) (.int .i64 t122)) (fun _ hk => hk.2) (.int .u64 t139)) (fun _ hk => hk.2) (.int .u64 t140)) (fun _ hk => hk.2) (.int .u64 t129)) (fun _ hk => hk.2) (.int .u64 t130)) (fun _ hk => hk.2) (.bool true)) (fun _ hk => trivial), by repeat (first | (with_reducible first | exact HB.out | apply below_alloc | apply pw_below_drewN | apply below_drew1 | refine below_set ?_ GE116.out | refine below_set ?_ GE117.out | refine below_set ?_ GE118.out | refine below_set ?_ GE119.out | refine below_set ?_ GE131.out) | exact HB.out)⟩
         ·
          rw [if_neg c77] at H
          have c77b0 : ((t127 / 9223372036854775808) == 1) = false := beq_eq_false_iff_ne.mpr c77
          (try rw [c77b0] at H)
          have c77b1 : ((t127 / 9223372036854775808) != 1) = true := bne_iff_ne.mpr c77
          simp only [Option.some.injEq, Prod.mk.injEq] at H
          obtain ⟨rfl, rfl, rfl, rfl, rfl, rfl, rfl, rfl⟩ := H
          have hnb93 := NB131_116.out
          have hnc93 := NB116_131.out
          have hnb94 := NB131_117.out
          have hnc94 := NB117_131.out
          have hnb95 := NB131_118.out
          have hnc95 := NB118_131.out
          have hnb96 := NB131_119.out
          have hnc96 := NB119_131.out
          have hcz97_0 : wr.cell? ⟨gb131, 0, none⟩ = some (u132000) := (blk_cell BK131.out 0).trans rfl
          have hcz97_1 : wr.cell? ⟨gb131, 1, none⟩ = some (.int .i64 t122) := (blk_cell BK131.out 1).trans rfl
          have hcz97_2 : wr.cell? ⟨gb131, 2, none⟩ = some (.int .u64 t127) := (blk_cell BK131.out 2).trans rfl
          have hcz97_3 : wr.cell? ⟨gb131, 3, none⟩ = some (.int .u64 t128) := (blk_cell BK131.out 3).trans rfl
          have hcz97_4 : wr.cell? ⟨gb131, 4, none⟩ = some (.int .u64 t129) := (blk_cell BK131.out 4).trans rfl
          have hcz97_5 : wr.cell? ⟨gb131, 5, none⟩ = some (.int .u64 t130) := (blk_cell BK131.out 5).trans rfl
          have hcz97_6 : wr.cell? ⟨gb131, 6, none⟩ = some (.bool false) := (blk_cell BK131.out 6).trans rfl
          have hfz97_0 := blk_frozen BK131.out 0
          have hfz97_1 := blk_frozen BK131.out 1
          have hfz97_2 := blk_frozen BK131.out 2
          have hfz97_3 := blk_frozen BK131.out 3
          have hfz97_4 := blk_frozen BK131.out 4
          have hfz97_5 := blk_frozen BK131.out 5
          have hfz97_6 := blk_frozen BK131.out 6
          obtain ⟨Ao98, co98, eo98⟩ := Kd.R_slice HO_132000.out
          subst eo98
          go_wp2_with (first | ((with_reducible refine gate_callee (f := 31) rfl ?_); refine goesL_ (some 87) rfl rfl Try.func31 (by kernel_rfl) rfl #[.agg #[.slice Ao98 x132000_2.length co98, .int .i64 t122, .int .u64 t127, .int .u64 t128, .int .u64 t129, .int .u64 t130, .bool false]] rfl (by (try simp only [List.map_toArray, List.map_cons, List.map_nil]); first | done | rfl | (simp only [List.length_drop, List.length_take]; rfl)) ?_; (with_reducible refine (ledger_entry_right.calls k2 _ _ x132000_2 t122 t127 t128 t129 t130 false true _ ?side1 ?side2 A75.out).mono ?_); (case side1 => repeat (first | exact (Kd.R_reads' HO_132000.out).2.2 | (with_reducible refine Kd.C_alloc ?_ _) | (with_reducible refine Kd.C_drewN ?_ _) | (with_reducible refine Kd.C_drew ?_))); (case side2 => exact (Kd.R_reads' HO_132000.out).2.1); rintro e w99 ⟨rfl, hb⟩; refine ⟨_, rfl, ?_⟩; have n0_ := Aside0.mk (Kd.R_below (by (with_reducible repeat (first | apply Kd.R_alloc | apply Kd.R_drewN | apply Kd.R_drew)); exact HO_132000.out) hb); have n1_ := ledger_way_both_f15.keepB BK116 hb; have n2_ := ledger_way_both_f15.keepB BK117 hb; have n3_ := ledger_way_both_f15.keepB BK118 hb; have n4_ := ledger_way_both_f15.keepB BK119 hb; have n5_ := ledger_way_both_f15.keepB BK131 hb; have n6_ := Aside0.mk (below_step (by repeat (first | (with_reducible first | exact HB.out | apply below_alloc | apply pw_below_drewN | apply below_drew1 | refine below_set ?_ GE116.out | refine below_set ?_ GE117.out | refine below_set ?_ GE118.out | refine below_set ?_ GE119.out | refine below_set ?_ GE131.out) | exact HB.out)) hb); clear HO_132000; clear BK116; clear BK117; clear BK118; clear BK119; clear BK131; clear HB; have HO_132000 := n0_; have BK116 := n1_; have BK117 := n2_; have BK118 := n3_; have BK119 := n4_; have BK131 := n5_; have HB := n6_; clear n0_ n1_ n2_ n3_ n4_ n5_ n6_; (try clear hb); (try clear hb2); (try clear hk); (try clear hi); have hcz100_0 : w99.cell? ⟨gb131, 0, none⟩ = some (.slice Ao98 x132000_2.length co98) := (blk_cell BK131.out 0).trans rfl; have hcz100_1 : w99.cell? ⟨gb131, 1, none⟩ = some (.int .i64 t122) := (blk_cell BK131.out 1).trans rfl; have hcz100_2 : w99.cell? ⟨gb131, 2, none⟩ = some (.int .u64 t127) := (blk_cell BK131.out 2).trans rfl; have hcz100_3 : w99.cell? ⟨gb131, 3, none⟩ = some (.int .u64 t128) := (blk_cell BK131.out 3).trans rfl; have hcz100_4 : w99.cell? ⟨gb131, 4, none⟩ = some (.int .u64 t129) := (blk_cell BK131.out 4).trans rfl; have hcz100_5 : w99.cell? ⟨gb131, 5, none⟩ = some (.int .u64 t130) := (blk_cell BK131.out 5).trans rfl; have hcz100_6 : w99.cell? ⟨gb131, 6, none⟩ = some (.bool false) := (blk_cell BK131.out 6).trans rfl; have hfz100_0 := blk_frozen BK131.out 0; have hfz100_1 := blk_frozen BK131.out 1; have hfz100_2 := blk_frozen BK131.out 2; have hfz100_3 := blk_frozen BK131.out 3; have hfz100_4 := blk_frozen BK131.out 4; have hfz100_5 := blk_frozen BK131.out 5; have hfz100_6 := blk_frozen BK131.out 6; have hnb101 := NB119_116.out; have hnc101 := NB116_119.out; have hnb102 := NB119_117.out; have hnc102 := NB117_119.out; have hnb103 := NB119_118.out; have hnc103 := NB118_119.out; have hcz104_0 : w99.cell? ⟨gb119, 0, none⟩ = some (.slice none 0 0) := (blk_cell BK119.out 0).trans rfl; have hcz104_1 : w99.cell? ⟨gb119, 1, none⟩ = some (.int .i64 0) := (blk_cell BK119.out 1).trans rfl; have hcz104_2 : w99.cell? ⟨gb119, 2, none⟩ = some (.int .u64 0) := (blk_cell BK119.out 2).trans rfl; have hcz104_3 : w99.cell? ⟨gb119, 3, none⟩ = some (.int .u64 0) := (blk_cell BK119.out 3).trans rfl; have hcz104_4 : w99.cell? ⟨gb119, 4, none⟩ = some (.int .u64 0) := (blk_cell BK119.out 4).trans rfl; have hcz104_5 : w99.cell? ⟨gb119, 5, none⟩ = some (.int .u64 0) := (blk_cell BK119.out 5).trans rfl; have hcz104_6 : w99.cell? ⟨gb119, 6, none⟩ = some (.bool false) := (blk_cell BK119.out 6).trans rfl; have hfz104_0 := blk_frozen BK119.out 0; have hfz104_1 := blk_frozen BK119.out 1; have hfz104_2 := blk_frozen BK119.out 2; have hfz104_3 := blk_frozen BK119.out 3; have hfz104_4 := blk_frozen BK119.out 4; have hfz104_5 := blk_frozen BK119.out 5; have hfz104_6 := blk_frozen BK119.out 6))
          refine bodyPost_ret (results_ct rfl _ _ gb119 27 #[.slice Ao98 x132000_2.length co98, .int .i64 t122, .int .u64 t127, .int .u64 t128, .int .u64 t129, .int .u64 t130, .bool false] (0, 0) _ rfl (by (with_reducible repeat (first | refine blk_drewN ?_ _ | refine blk_drew ?_ | refine blk_alloc ?_ _)); refine blk_put (cs := #[.slice Ao98 x132000_2.length co98, .int .i64 t122, .int .u64 t127, .int .u64 t128, .int .u64 t129, .int .u64 t130, .bool false]) ?_ 6 _ rfl; (with_reducible repeat (first | refine blk_drewN ?_ _ | refine blk_drew ?_ | refine blk_alloc ?_ _)); refine blk_put (cs := #[.slice Ao98 x132000_2.length co98, .int .i64 t122, .int .u64 t127, .int .u64 t128, .int .u64 t129, .int .u64 0, .bool false]) ?_ 5 _ rfl; (with_reducible repeat (first | refine blk_drewN ?_ _ | refine blk_drew ?_ | refine blk_alloc ?_ _)); refine blk_put (cs := #[.slice Ao98 x132000_2.length co98, .int .i64 t122, .int .u64 t127, .int .u64 t128, .int .u64 0, .int .u64 0, .bool false]) ?_ 4 _ rfl; (with_reducible repeat (first | refine blk_drewN ?_ _ | refine blk_drew ?_ | refine blk_alloc ?_ _)); refine blk_put (cs := #[.slice Ao98 x132000_2.length co98, .int .i64 t122, .int .u64 t127, .int .u64 0, .int .u64 0, .int .u64 0, .bool false]) ?_ 3 _ rfl; (with_reducible repeat (first | refine blk_drewN ?_ _ | refine blk_drew ?_ | refine blk_alloc ?_ _)); refine blk_put (cs := #[.slice Ao98 x132000_2.length co98, .int .i64 t122, .int .u64 0, .int .u64 0, .int .u64 0, .int .u64 0, .bool false]) ?_ 2 _ rfl; (with_reducible repeat (first | refine blk_drewN ?_ _ | refine blk_drew ?_ | refine blk_alloc ?_ _)); refine blk_put (cs := #[.slice Ao98 x132000_2.length co98, .int .i64 0, .int .u64 0, .int .u64 0, .int .u64 0, .int .u64 0, .bool false]) ?_ 1 _ rfl; (with_reducible repeat (first | refine blk_drewN ?_ _ | refine blk_drew ?_ | refine blk_alloc ?_ _)); refine blk_put (cs := #[.slice none 0 0, .int .i64 0, .int .u64 0, .int .u64 0, .int .u64 0, .int .u64 0, .bool false]) ?_ 0 _ rfl; (with_reducible repeat (first | refine blk_drewN ?_ _ | refine blk_drew ?_ | refine blk_alloc ?_ _)); refine blk_far ?_ NB119_131.out _; (with_reducible repeat (first | refine blk_drewN ?_ _ | refine blk_drew ?_ | refine blk_alloc ?_ _)); exact BK119.out) Try.underlying27 rfl (by kernel_rfl)) rfl ?_
          exact ⟨_, by first | rfl | (simp [errW_none, errW_some] <;> rfl) | (simp [*, errW_none, errW_some] <;> rfl), by (with_reducible repeat (first | apply Kd.R_alloc | apply Kd.R_drewN | apply Kd.R_drew)); exact Kd.R_mono (Kd.R_far (p := ⟨gb119, 6, none⟩) (Kd.R_far (p := ⟨gb119, 5, none⟩) (Kd.R_far (p := ⟨gb119, 4, none⟩) (Kd.R_far (p := ⟨gb119, 3, none⟩) (Kd.R_far (p := ⟨gb119, 2, none⟩) (Kd.R_far (p := ⟨gb119, 1, none⟩) (Kd.R_far (p := ⟨gb119, 0, none⟩) (Kd.R_far (p := ⟨gb131, 6, none⟩) (Kd.R_types (Kd.R_types HO_132000.out BK131.out (by decide)) BK119.out (by decide)) (fun _ hk => hk.1.2) (.bool false)) (fun _ hk => hk.2) (.slice Ao98 x132000_2.length co98)) (fun _ hk => hk.2) (.int .i64 t122)) (fun _ hk => hk.2) (.int .u64 t127)) (fun _ hk => hk.2) (.int .u64 t128)) (fun _ hk => hk.2) (.int .u64 t129)) (fun _ hk => hk.2) (.int .u64 t130)) (fun _ hk => hk.2) (.bool false)) (fun _ hk => trivial), by repeat (first | (with_reducible first | exact HB.out | apply below_alloc | apply pw_below_drewN | apply below_drew1 | refine below_set ?_ GE116.out | refine below_set ?_ GE117.out | refine below_set ?_ GE118.out | refine below_set ?_ GE119.out | refine below_set ?_ GE131.out) | exact HB.out)⟩
        ·
         replace c76 := Bool.eq_false_iff.mpr c76
         subst c76
         have H1 : (some (([] : List Int), 0, 0, 0, 0, 0, false, 4)) = some (r1, r2, r3, r4, r5, r6, r7, r8) := by rw [if_neg (show ¬ (false = true) by decide)] at H; exact H
         clear H
         have H := H1
         clear H1
         simp only [Option.some.injEq, Prod.mk.injEq] at H
         obtain ⟨rfl, rfl, rfl, rfl, rfl, rfl, rfl, rfl⟩ := H
         have hnb105 := NB131_116.out
         have hnc105 := NB116_131.out
         have hnb106 := NB131_117.out
         have hnc106 := NB117_131.out
         have hnb107 := NB131_118.out
         have hnc107 := NB118_131.out
         have hnb108 := NB131_119.out
         have hnc108 := NB119_131.out
         have hcz109_0 : wr.cell? ⟨gb131, 0, none⟩ = some (u132000) := (blk_cell BK131.out 0).trans rfl
         have hcz109_1 : wr.cell? ⟨gb131, 1, none⟩ = some (.int .i64 t122) := (blk_cell BK131.out 1).trans rfl
         have hcz109_2 : wr.cell? ⟨gb131, 2, none⟩ = some (.int .u64 t127) := (blk_cell BK131.out 2).trans rfl
         have hcz109_3 : wr.cell? ⟨gb131, 3, none⟩ = some (.int .u64 t128) := (blk_cell BK131.out 3).trans rfl
         have hcz109_4 : wr.cell? ⟨gb131, 4, none⟩ = some (.int .u64 t129) := (blk_cell BK131.out 4).trans rfl
         have hcz109_5 : wr.cell? ⟨gb131, 5, none⟩ = some (.int .u64 t130) := (blk_cell BK131.out 5).trans rfl
         have hcz109_6 : wr.cell? ⟨gb131, 6, none⟩ = some (.bool false) := (blk_cell BK131.out 6).trans rfl
         have hfz109_0 := blk_frozen BK131.out 0
         have hfz109_1 := blk_frozen BK131.out 1
         have hfz109_2 := blk_frozen BK131.out 2
         have hfz109_3 := blk_frozen BK131.out 3
         have hfz109_4 := blk_frozen BK131.out 4
         have hfz109_5 := blk_frozen BK131.out 5
         have hfz109_6 := blk_frozen BK131.out 6
         obtain ⟨Ao110, co110, eo110⟩ := Kd.R_slice HO_132000.out
         subst eo110
         go_wp2_with (first | ((with_reducible refine gate_callee (f := 31) rfl ?_); refine goesL_ (some 87) rfl rfl Try.func31 (by kernel_rfl) rfl #[.agg #[.slice Ao110 x132000_2.length co110, .int .i64 t122, .int .u64 t127, .int .u64 t128, .int .u64 t129, .int .u64 t130, .bool false]] rfl (by (try simp only [List.map_toArray, List.map_cons, List.map_nil]); first | done | rfl | (simp only [List.length_drop, List.length_take]; rfl)) ?_; (with_reducible refine (ledger_entry_right.calls k2 _ _ x132000_2 t122 t127 t128 t129 t130 false false _ ?side1 ?side2 A75.out).mono ?_); (case side1 => repeat (first | exact (Kd.R_reads' HO_132000.out).2.2 | (with_reducible refine Kd.C_alloc ?_ _) | (with_reducible refine Kd.C_drewN ?_ _) | (with_reducible refine Kd.C_drew ?_))); (case side2 => exact (Kd.R_reads' HO_132000.out).2.1); rintro e w111 ⟨rfl, hb⟩; refine ⟨_, rfl, ?_⟩; have n0_ := Aside0.mk (Kd.R_below (by (with_reducible repeat (first | apply Kd.R_alloc | apply Kd.R_drewN | apply Kd.R_drew)); exact HO_132000.out) hb); have n1_ := ledger_way_both_f15.keepB BK116 hb; have n2_ := ledger_way_both_f15.keepB BK117 hb; have n3_ := ledger_way_both_f15.keepB BK118 hb; have n4_ := ledger_way_both_f15.keepB BK119 hb; have n5_ := ledger_way_both_f15.keepB BK131 hb; have n6_ := Aside0.mk (below_step (by repeat (first | (with_reducible first | exact HB.out | apply below_alloc | apply pw_below_drewN | apply below_drew1 | refine below_set ?_ GE116.out | refine below_set ?_ GE117.out | refine below_set ?_ GE118.out | refine below_set ?_ GE119.out | refine below_set ?_ GE131.out) | exact HB.out)) hb); clear HO_132000; clear BK116; clear BK117; clear BK118; clear BK119; clear BK131; clear HB; have HO_132000 := n0_; have BK116 := n1_; have BK117 := n2_; have BK118 := n3_; have BK119 := n4_; have BK131 := n5_; have HB := n6_; clear n0_ n1_ n2_ n3_ n4_ n5_ n6_; (try clear hb); (try clear hb2); (try clear hk); (try clear hi); have hnb112 := NB119_116.out; have hnc112 := NB116_119.out; have hnb113 := NB119_117.out; have hnc113 := NB117_119.out; have hnb114 := NB119_118.out; have hnc114 := NB118_119.out; have hcz115_0 : w111.cell? ⟨gb119, 0, none⟩ = some (.slice none 0 0) := (blk_cell BK119.out 0).trans rfl; have hcz115_1 : w111.cell? ⟨gb119, 1, none⟩ = some (.int .i64 0) := (blk_cell BK119.out 1).trans rfl; have hcz115_2 : w111.cell? ⟨gb119, 2, none⟩ = some (.int .u64 0) := (blk_cell BK119.out 2).trans rfl; have hcz115_3 : w111.cell? ⟨gb119, 3, none⟩ = some (.int .u64 0) := (blk_cell BK119.out 3).trans rfl; have hcz115_4 : w111.cell? ⟨gb119, 4, none⟩ = some (.int .u64 0) := (blk_cell BK119.out 4).trans rfl; have hcz115_5 : w111.cell? ⟨gb119, 5, none⟩ = some (.int .u64 0) := (blk_cell BK119.out 5).trans rfl; have hcz115_6 : w111.cell? ⟨gb119, 6, none⟩ = some (.bool false) := (blk_cell BK119.out 6).trans rfl; have hfz115_0 := blk_frozen BK119.out 0; have hfz115_1 := blk_frozen BK119.out 1; have hfz115_2 := blk_frozen BK119.out 2; have hfz115_3 := blk_frozen BK119.out 3; have hfz115_4 := blk_frozen BK119.out 4; have hfz115_5 := blk_frozen BK119.out 5; have hfz115_6 := blk_frozen BK119.out 6))
         refine bodyPost_ret (results_ct rfl _ _ gb119 27 #[.slice none 0 0, .int .i64 0, .int .u64 0, .int .u64 0, .int .u64 0, .int .u64 0, .bool false] (0, 0) _ rfl (by (with_reducible repeat (first | refine blk_drewN ?_ _ | refine blk_drew ?_ | refine blk_alloc ?_ _)); refine blk_put (cs := #[.slice none 0 0, .int .i64 0, .int .u64 0, .int .u64 0, .int .u64 0, .int .u64 0, .bool false]) ?_ 6 _ rfl; (with_reducible repeat (first | refine blk_drewN ?_ _ | refine blk_drew ?_ | refine blk_alloc ?_ _)); refine blk_put (cs := #[.slice none 0 0, .int .i64 0, .int .u64 0, .int .u64 0, .int .u64 0, .int .u64 0, .bool false]) ?_ 5 _ rfl; (with_reducible repeat (first | refine blk_drewN ?_ _ | refine blk_drew ?_ | refine blk_alloc ?_ _)); refine blk_put (cs := #[.slice none 0 0, .int .i64 0, .int .u64 0, .int .u64 0, .int .u64 0, .int .u64 0, .bool false]) ?_ 4 _ rfl; (with_reducible repeat (first | refine blk_drewN ?_ _ | refine blk_drew ?_ | refine blk_alloc ?_ _)); refine blk_put (cs := #[.slice none 0 0, .int .i64 0, .int .u64 0, .int .u64 0, .int .u64 0, .int .u64 0, .bool false]) ?_ 3 _ rfl; (with_reducible repeat (first | refine blk_drewN ?_ _ | refine blk_drew ?_ | refine blk_alloc ?_ _)); refine blk_put (cs := #[.slice none 0 0, .int .i64 0, .int .u64 0, .int .u64 0, .int .u64 0, .int .u64 0, .bool false]) ?_ 2 _ rfl; (with_reducible repeat (first | refine blk_drewN ?_ _ | refine blk_drew ?_ | refine blk_alloc ?_ _)); refine blk_put (cs := #[.slice none 0 0, .int .i64 0, .int .u64 0, .int .u64 0, .int .u64 0, .int .u64 0, .bool false]) ?_ 1 _ rfl; (with_reducible repeat (first | refine blk_drewN ?_ _ | refine blk_drew ?_ | refine blk_alloc ?_ _)); refine blk_put (cs := #[.slice none 0 0, .int .i64 0, .int .u64 0, .int .u64 0, .int .u64 0, .int .u64 0, .bool false]) ?_ 0 _ rfl; (with_reducible repeat (first | refine blk_drewN ?_ _ | refine blk_drew ?_ | refine blk_alloc ?_ _)); exact BK119.out) Try.underlying27 rfl (by kernel_rfl)) rfl ?_
         exact ⟨_, by first | rfl | (simp [errW_none, errW_some] <;> rfl) | (simp [*, errW_none, errW_some] <;> rfl), by first | exact Kd.R_nil _ _ _ _ _ | exact Kd.N_nil _ _ _ _ _ | exact Kd.V_nil _ _ _ _ _ | exact Kd.Q_nil _ _ _ _ _ | exact Kd.S_nil _ _ _ _ _, by repeat (first | (with_reducible first | exact HB.out | apply below_alloc | apply pw_below_drewN | apply below_drew1 | refine below_set ?_ GE116.out | refine below_set ?_ GE117.out | refine below_set ?_ GE118.out | refine below_set ?_ GE119.out | refine below_set ?_ GE131.out) | exact HB.out)⟩
 ·
  rw [if_neg c4] at H
  have c4b0 : ((l1_0.length : Int) == (l2_0.length : Int)) = false := beq_eq_false_iff_ne.mpr c4
  have c4b1 : ((l1_0.length : Int) != (l2_0.length : Int)) = true := bne_iff_ne.mpr c4
  have c4b2 : (l1_0.length == l2_0.length) = false := by first | simpa using c4 | (simp at c4 ⊢; omega)
  simp only [Option.some.injEq, Prod.mk.injEq] at H
  obtain ⟨rfl, rfl, rfl, rfl, rfl, rfl, rfl, rfl⟩ := H
  go_enter Try.func17, Try.ntmps17
  go_wp2_with (first | ((with_reducible refine gate_dst (N := 3) rfl ?_); refine box_event ?hg (N := 3) ?hd (cs := #[.func (.func 15) #[] #[], .func (.func 16) #[] #[]]) (t := 45) ?hr ?_; (case hd => rfl); (case hg => rfl); (case hr => first | (go_simp; done) | (go_simp; rfl)); intro gb116 hg w116 hbox hb; have n0_ := Aside0.mk (below_step (by repeat (first | (with_reducible first | exact HB.out | apply below_alloc | apply pw_below_drewN | apply below_drew1) | exact HB.out)) hb); have n1_ := Aside0.mk (hbox); have n2_ := Aside0.mk ((by rw [hg]; exact (below_size (by repeat (first | (with_reducible first | exact HB.out | apply below_alloc | apply pw_below_drewN | apply below_drew1) | exact HB.out))) : w.heap.size ≤ gb116)); have n3_ := Aside0.mk ((by rw [hg]; exact (below_size (by repeat (first | (with_reducible first | exact HB.out | apply below_alloc | apply pw_below_drewN | apply below_drew1) | exact HB.out))) : w.heap.size ≤ gb116)); clear HB; have HB := n0_; have BK116 := n1_; have GW116 := n2_; have GE116 := n3_; clear n0_ n1_ n2_ n3_; clear hb hbox hg) | ((with_reducible refine gate_dst (N := 4) rfl ?_); refine box_event ?hg (N := 4) ?hd (cs := #[.slice A1_0 l1_0.length c1_0, .int .i64 a1_1, .int .u64 a1_2, .int .u64 a1_3, .int .u64 a1_4, .int .u64 a1_5, .bool a1_6]) (t := 48) ?hr ?_; (case hd => rfl); (case hg => rfl); (case hr => first | (go_simp; done) | (go_simp; rfl)); intro gb117 hg w117 hbox hb; have n0_ := ledger_way_both_f15.keepB BK116 hb; have n1_ := Aside0.mk (below_step (by repeat (first | (with_reducible first | exact HB.out | apply below_alloc | apply pw_below_drewN | apply below_drew1 | refine below_set ?_ GE116.out) | exact HB.out)) hb); have n2_ := Aside0.mk (hbox); have n3_ := Aside0.mk ((by rw [hg]; exact (below_size (by repeat (first | (with_reducible first | exact HB.out | apply below_alloc | apply pw_below_drewN | apply below_drew1 | refine below_set ?_ GE116.out) | exact HB.out))) : w.heap.size ≤ gb117)); have n4_ := Aside0.mk ((by rw [hg]; exact (below_size (by repeat (first | (with_reducible first | exact HB.out | apply below_alloc | apply pw_below_drewN | apply below_drew1 | refine below_set ?_ GE116.out) | exact HB.out))) : w.heap.size ≤ gb117)); have n5_ := ledger_way_both_f15.neL BK116 hg; have n6_ := ledger_way_both_f15.neG BK116 hg; clear BK116; clear HB; have BK116 := n0_; have HB := n1_; have BK117 := n2_; have GW117 := n3_; have GE117 := n4_; have NB116_117 := n5_; have NB117_116 := n6_; clear n0_ n1_ n2_ n3_ n4_ n5_ n6_; clear hb hbox hg) | ((with_reducible refine gate_dst (N := 5) rfl ?_); refine box_event ?hg (N := 5) ?hd (cs := #[.slice A2_0 l2_0.length c2_0, .int .i64 a2_1, .int .u64 a2_2, .int .u64 a2_3, .int .u64 a2_4, .int .u64 a2_5, .bool a2_6]) (t := 48) ?hr ?_; (case hd => rfl); (case hg => rfl); (case hr => first | (go_simp; done) | (go_simp; rfl)); intro gb118 hg w118 hbox hb; have n0_ := ledger_way_both_f15.keepB BK116 hb; have n1_ := ledger_way_both_f15.keepB BK117 hb; have n2_ := Aside0.mk (below_step (by repeat (first | (with_reducible first | exact HB.out | apply below_alloc | apply pw_below_drewN | apply below_drew1 | refine below_set ?_ GE116.out | refine below_set ?_ GE117.out) | exact HB.out)) hb); have n3_ := Aside0.mk (hbox); have n4_ := Aside0.mk ((by rw [hg]; exact (below_size (by repeat (first | (with_reducible first | exact HB.out | apply below_alloc | apply pw_below_drewN | apply below_drew1 | refine below_set ?_ GE116.out | refine below_set ?_ GE117.out) | exact HB.out))) : w.heap.size ≤ gb118)); have n5_ := Aside0.mk ((by rw [hg]; exact (below_size (by repeat (first | (with_reducible first | exact HB.out | apply below_alloc | apply pw_below_drewN | apply below_drew1 | refine below_set ?_ GE116.out | refine below_set ?_ GE117.out) | exact HB.out))) : w.heap.size ≤ gb118)); have n6_ := ledger_way_both_f15.neL BK116 hg; have n7_ := ledger_way_both_f15.neG BK116 hg; have n8_ := ledger_way_both_f15.neL BK117 hg; have n9_ := ledger_way_both_f15.neG BK117 hg; clear BK116; clear BK117; clear HB; have BK116 := n0_; have BK117 := n1_; have HB := n2_; have BK118 := n3_; have GW118 := n4_; have GE118 := n5_; have NB116_118 := n6_; have NB118_116 := n7_; have NB117_118 := n8_; have NB118_117 := n9_; clear n0_ n1_ n2_ n3_ n4_ n5_ n6_ n7_ n8_ n9_; clear hb hbox hg) | ((with_reducible refine gate_dst (N := 6) rfl ?_); refine box_event ?hg (N := 6) ?hd (cs := #[.slice none 0 0, .int .i64 0, .int .u64 0, .int .u64 0, .int .u64 0, .int .u64 0, .bool false]) (t := 27) ?hr ?_; (case hd => rfl); (case hg => rfl); (case hr => first | (go_simp; done) | (go_simp; rfl)); intro gb119 hg w119 hbox hb; have n0_ := ledger_way_both_f15.keepB BK116 hb; have n1_ := ledger_way_both_f15.keepB BK117 hb; have n2_ := ledger_way_both_f15.keepB BK118 hb; have n3_ := Aside0.mk (below_step (by repeat (first | (with_reducible first | exact HB.out | apply below_alloc | apply pw_below_drewN | apply below_drew1 | refine below_set ?_ GE116.out | refine below_set ?_ GE117.out | refine below_set ?_ GE118.out) | exact HB.out)) hb); have n4_ := Aside0.mk (hbox); have n5_ := Aside0.mk ((by rw [hg]; exact (below_size (by repeat (first | (with_reducible first | exact HB.out | apply below_alloc | apply pw_below_drewN | apply below_drew1 | refine below_set ?_ GE116.out | refine below_set ?_ GE117.out | refine below_set ?_ GE118.out) | exact HB.out))) : w.heap.size ≤ gb119)); have n6_ := Aside0.mk ((by rw [hg]; exact (below_size (by repeat (first | (with_reducible first | exact HB.out | apply below_alloc | apply pw_below_drewN | apply below_drew1 | refine below_set ?_ GE116.out | refine below_set ?_ GE117.out | refine below_set ?_ GE118.out) | exact HB.out))) : w.heap.size ≤ gb119)); have n7_ := ledger_way_both_f15.neL BK116 hg; have n8_ := ledger_way_both_f15.neG BK116 hg; have n9_ := ledger_way_both_f15.neL BK117 hg; have n10_ := ledger_way_both_f15.neG BK117 hg; have n11_ := ledger_way_both_f15.neL BK118 hg; have n12_ := ledger_way_both_f15.neG BK118 hg; clear BK116; clear BK117; clear BK118; clear HB; have BK116 := n0_; have BK117 := n1_; have BK118 := n2_; have HB := n3_; have BK119 := n4_; have GW119 := n5_; have GE119 := n6_; have NB116_119 := n7_; have NB119_116 := n8_; have NB117_119 := n9_; have NB119_117 := n10_; have NB118_119 := n11_; have NB119_118 := n12_; clear n0_ n1_ n2_ n3_ n4_ n5_ n6_ n7_ n8_ n9_ n10_ n11_ n12_; clear hb hbox hg; have hnb120 := NB117_116.out; have hnc120 := NB116_117.out; have hnb121 := NB117_118.out; have hnc121 := NB118_117.out; have hnb122 := NB117_119.out; have hnc122 := NB119_117.out; have hcz123_0 : w119.cell? ⟨gb117, 0, none⟩ = some (.slice A1_0 l1_0.length c1_0) := (blk_cell BK117.out 0).trans rfl; have hcz123_1 : w119.cell? ⟨gb117, 1, none⟩ = some (.int .i64 a1_1) := (blk_cell BK117.out 1).trans rfl; have hcz123_2 : w119.cell? ⟨gb117, 2, none⟩ = some (.int .u64 a1_2) := (blk_cell BK117.out 2).trans rfl; have hcz123_3 : w119.cell? ⟨gb117, 3, none⟩ = some (.int .u64 a1_3) := (blk_cell BK117.out 3).trans rfl; have hcz123_4 : w119.cell? ⟨gb117, 4, none⟩ = some (.int .u64 a1_4) := (blk_cell BK117.out 4).trans rfl; have hcz123_5 : w119.cell? ⟨gb117, 5, none⟩ = some (.int .u64 a1_5) := (blk_cell BK117.out 5).trans rfl; have hcz123_6 : w119.cell? ⟨gb117, 6, none⟩ = some (.bool a1_6) := (blk_cell BK117.out 6).trans rfl; have hfz123_0 := blk_frozen BK117.out 0; have hfz123_1 := blk_frozen BK117.out 1; have hfz123_2 := blk_frozen BK117.out 2; have hfz123_3 := blk_frozen BK117.out 3; have hfz123_4 := blk_frozen BK117.out 4; have hfz123_5 := blk_frozen BK117.out 5; have hfz123_6 := blk_frozen BK117.out 6; have hnb124 := NB118_116.out; have hnc124 := NB116_118.out; have hnb125 := NB118_119.out; have hnc125 := NB119_118.out; have hcz126_0 : w119.cell? ⟨gb118, 0, none⟩ = some (.slice A2_0 l2_0.length c2_0) := (blk_cell BK118.out 0).trans rfl; have hcz126_1 : w119.cell? ⟨gb118, 1, none⟩ = some (.int .i64 a2_1) := (blk_cell BK118.out 1).trans rfl; have hcz126_2 : w119.cell? ⟨gb118, 2, none⟩ = some (.int .u64 a2_2) := (blk_cell BK118.out 2).trans rfl; have hcz126_3 : w119.cell? ⟨gb118, 3, none⟩ = some (.int .u64 a2_3) := (blk_cell BK118.out 3).trans rfl; have hcz126_4 : w119.cell? ⟨gb118, 4, none⟩ = some (.int .u64 a2_4) := (blk_cell BK118.out 4).trans rfl; have hcz126_5 : w119.cell? ⟨gb118, 5, none⟩ = some (.int .u64 a2_5) := (blk_cell BK118.out 5).trans rfl; have hcz126_6 : w119.cell? ⟨gb118, 6, none⟩ = some (.bool a2_6) := (blk_cell BK118.out 6).trans rfl; have hfz126_0 := blk_frozen BK118.out 0; have hfz126_1 := blk_frozen BK118.out 1; have hfz126_2 := blk_frozen BK118.out 2; have hfz126_3 := blk_frozen BK118.out 3; have hfz126_4 := blk_frozen BK118.out 4; have hfz126_5 := blk_frozen BK118.out 5; have hfz126_6 := blk_frozen BK118.out 6; have hnb127 := NB119_116.out; have hnc127 := NB116_119.out; have hcz128_0 : w119.cell? ⟨gb119, 0, none⟩ = some (.slice none 0 0) := (blk_cell BK119.out 0).trans rfl; have hcz128_1 : w119.cell? ⟨gb119, 1, none⟩ = some (.int .i64 0) := (blk_cell BK119.out 1).trans rfl; have hcz128_2 : w119.cell? ⟨gb119, 2, none⟩ = some (.int .u64 0) := (blk_cell BK119.out 2).trans rfl; have hcz128_3 : w119.cell? ⟨gb119, 3, none⟩ = some (.int .u64 0) := (blk_cell BK119.out 3).trans rfl; have hcz128_4 : w119.cell? ⟨gb119, 4, none⟩ = some (.int .u64 0) := (blk_cell BK119.out 4).trans rfl; have hcz128_5 : w119.cell? ⟨gb119, 5, none⟩ = some (.int .u64 0) := (blk_cell BK119.out 5).trans rfl; have hcz128_6 : w119.cell? ⟨gb119, 6, none⟩ = some (.bool false) := (blk_cell BK119.out 6).trans rfl; have hfz128_0 := blk_frozen BK119.out 0; have hfz128_1 := blk_frozen BK119.out 1; have hfz128_2 := blk_frozen BK119.out 2; have hfz128_3 := blk_frozen BK119.out 3; have hfz128_4 := blk_frozen BK119.out 4; have hfz128_5 := blk_frozen BK119.out 5; have hfz128_6 := blk_frozen BK119.out 6))
  refine bodyPost_ret (results_ct rfl _ _ gb119 27 #[.slice none 0 0, .int .i64 0, .int .u64 0, .int .u64 0, .int .u64 0, .int .u64 0, .bool false] (0, 0) _ rfl (by (with_reducible repeat (first | refine blk_drewN ?_ _ | refine blk_drew ?_ | refine blk_alloc ?_ _)); refine blk_put (cs := #[.slice none 0 0, .int .i64 0, .int .u64 0, .int .u64 0, .int .u64 0, .int .u64 0, .bool false]) ?_ 6 _ rfl; (with_reducible repeat (first | refine blk_drewN ?_ _ | refine blk_drew ?_ | refine blk_alloc ?_ _)); refine blk_put (cs := #[.slice none 0 0, .int .i64 0, .int .u64 0, .int .u64 0, .int .u64 0, .int .u64 0, .bool false]) ?_ 5 _ rfl; (with_reducible repeat (first | refine blk_drewN ?_ _ | refine blk_drew ?_ | refine blk_alloc ?_ _)); refine blk_put (cs := #[.slice none 0 0, .int .i64 0, .int .u64 0, .int .u64 0, .int .u64 0, .int .u64 0, .bool false]) ?_ 4 _ rfl; (with_reducible repeat (first | refine blk_drewN ?_ _ | refine blk_drew ?_ | refine blk_alloc ?_ _)); refine blk_put (cs := #[.slice none 0 0, .int .i64 0, .int .u64 0, .int .u64 0, .int .u64 0, .int .u64 0, .bool false]) ?_ 3 _ rfl; (with_reducible repeat (first | refine blk_drewN ?_ _ | refine blk_drew ?_ | refine blk_alloc ?_ _)); refine blk_put (cs := #[.slice none 0 0, .int .i64 0, .int .u64 0, .int .u64 0, .int .u64 0, .int .u64 0, .bool false]) ?_ 2 _ rfl; (with_reducible repeat (first | refine blk_drewN ?_ _ | refine blk_drew ?_ | refine blk_alloc ?_ _)); refine blk_put (cs := #[.slice none 0 0, .int .i64 0, .int .u64 0, .int .u64 0, .int .u64 0, .int .u64 0, .bool false]) ?_ 1 _ rfl; (with_reducible repeat (first | refine blk_drewN ?_ _ | refine blk_drew ?_ | refine blk_alloc ?_ _)); refine blk_put (cs := #[.slice none 0 0, .int .i64 0, .int .u64 0, .int .u64 0, .int .u64 0, .int .u64 0, .bool false]) ?_ 0 _ rfl; (with_reducible repeat (first | refine blk_drewN ?_ _ | refine blk_drew ?_ | refine blk_alloc ?_ _)); exact BK119.out) Try.underlying27 rfl (by kernel_rfl)) rfl ?_
  exact ⟨_, by first | rfl | (simp [errW_none, errW_some] <;> rfl) | (simp [*, errW_none, errW_some] <;> rfl), by first | exact Kd.R_nil _ _ _ _ _ | exact Kd.N_nil _ _ _ _ _ | exact Kd.V_nil _ _ _ _ _ | exact Kd.Q_nil _ _ _ _ _ | exact Kd.S_nil _ _ _ _ _, by repeat (first | (with_reducible first | exact HB.out | apply below_alloc | apply pw_below_drewN | apply below_drew1 | refine below_set ?_ GE116.out | refine below_set ?_ GE117.out | refine below_set ?_ GE118.out | refine below_set ?_ GE119.out) | exact HB.out)⟩

end Go.Proofs.Yticihbccflflfaa.PAll
