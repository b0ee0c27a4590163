/- The Go functions that the laws reach, as Lean functions, and that each call comes to what its function says. Written by a program of this session (a turned copy of the kit's print). No condition beyond those that each theorem states. -/
import Derived.Test.YticihbccflflfaaPAllx0
import Derived.Test.YticihbccflflfaaPAllx2
import Derived.Test.YticihbccflflfaaPAllx8
namespace Go.Proofs.Yticihbccflflfaa.PAll
open Go.RowKit Go.Proofs.YticihbccflflfaaW.PrintWords Go.Proofs.YticihbccflflfaaW.PrintLast Go.Proofs.YticihbccflflfaaW.PrintMore
attribute [local go_sem] max2_int min2_int max_two min_two max_three min_three max_four min_four   -- for this text's walks alone
set_option linter.unusedVariables false
set_option linter.unusedSimpArgs false

theorem ledger_way_both_f24.keepB {W0 W w1 : World} {g : Nat} {o : Obj} (h : Aside0 (W0.heap[g]? = some o)) (hb : Below W.heap.size W w1) (hs : W0.heap[g]? = some o → W.heap[g]? = some o := by intro h_; (with_reducible repeat (first | refine blk_drewN ?_ _ | refine blk_drew ?_ | refine blk_alloc ?_ _)); exact h_) : Aside0 (w1.heap[g]? = some o) := ⟨(hb.block g (blk_lt (hs h.out))).trans (hs h.out)⟩
theorem ledger_way_both_f24.neL {W0 W : World} {g gb : Nat} {o : Obj} (h : Aside0 (W0.heap[g]? = some o)) (hg : gb = W.heap.size) (hs : W0.heap[g]? = some o → W.heap[g]? = some o := by intro h_; (with_reducible repeat (first | refine blk_drewN ?_ _ | refine blk_drew ?_ | refine blk_alloc ?_ _)); exact h_) : Aside0 (g ≠ gb) := ⟨by rw [hg]; exact Nat.ne_of_lt (blk_lt (hs h.out))⟩
theorem ledger_way_both_f24.neG {W0 W : World} {g gb : Nat} {o : Obj} (h : Aside0 (W0.heap[g]? = some o)) (hg : gb = W.heap.size) (hs : W0.heap[g]? = some o → W.heap[g]? = some o := by intro h_; (with_reducible repeat (first | refine blk_drewN ?_ _ | refine blk_drew ?_ | refine blk_alloc ?_ _)); exact h_) : Aside0 (gb ≠ g) := ⟨by rw [hg]; exact Nat.ne_of_gt (blk_lt (hs h.out))⟩
/-! ### ledger_way_both_f24: function 17 -/
mutual
def ledger_way_both_f24.j0 : Nat → Bool → List Int → Int → Int → Int → Int → Int → Bool → List Int → Int → Int → Int → Int → Int → Bool → Option (List Int × Int × Int × Int × Int × Int × Bool × Int)
 | 0, _, _, _, _, _, _, _, _, _, _, _, _, _, _, _ => none
 | k + 1, x27, x170000, x170001, x170002, x170003, x170004, x170005, x170006, x171000, x171001, x171002, x171003, x171004, x171005, x171006 => if x27 = true then (some (([] : List Int), 0, 0, 0, 0, 0, false, 4)) else ((ledger_minus.f x170001 x171001).bind fun t174 => ((ledger_entry_sum.f x170000 x170001 x170002 x170003 x170004 x170005 x170006).bind fun bt175 => ((ledger_entry_sum.f x171000 x171001 x171002 x171003 x171004 x171005 x171006).bind fun bt177 => ((wide_Sub.f bt175.1 bt175.2 bt177.1 bt177.2).bind fun bt179 => ((wide_Sub.f x170004 x170005 x171004 x171005).bind fun bt181 => (ledger_way_both_f24.l0 k (x170000.length : Int) 0 x170000 x170001 x170002 x170003 x170004 x170005 x170006 x171000 x171001 x171002 x171003 x171004 x171005 x171006 ([] : List Int) t174 bt179.1 bt179.2 bt181.1 bt181.2 false))))))
def ledger_way_both_f24.l0 : Nat → Int → Int → List Int → Int → Int → Int → Int → Int → Bool → List Int → Int → Int → Int → Int → Int → Bool → List Int → Int → Int → Int → Int → Int → Bool → Option (List Int × Int × Int × Int × Int × Int × Bool × Int)
 | 0, _, _, _, _, _, _, _, _, _, _, _, _, _, _, _, _, _, _, _, _, _, _, _ => none
 | k + 1, x59, x60, x170000, x170001, x170002, x170003, x170004, x170005, x170006, x171000, x171001, x171002, x171003, x171004, x171005, x171006, x184000, x184001, x184002, x184003, x184004, x184005, x184006 => if x60 < x59 then (if 0 ≤ x60 then (if x60 < (x170000.length : Int) then (if x60 < (x171000.length : Int) then ((ledger_minus.f (rd x170000 x60) (rd x171000 x60)).bind fun t186 => (if x184000.length < 17592186044416 then (ledger_way_both_f24.l0 k x59 (wrap64 (x60 + 1)) x170000 x170001 x170002 x170003 x170004 x170005 x170006 x171000 x171001 x171002 x171003 x171004 x171005 x171006 (x184000 ++ [t186]) x184001 x184002 x184003 x184004 x184005 x184006) else (none))) else (none)) else (none)) else (none)) else ((ledger_entry_right.f k x184000 x184001 x184002 x184003 x184004 x184005 x184006).bind fun t190 => (if t190 = true then (if (x184002 / 9223372036854775808) = 1 then ((wide_Neg.f x184002 x184003).bind fun bt191 => (some (x184000, x184001, bt191.1, bt191.2, x184004, x184005, ((x184002 / 9223372036854775808) == 1), 0))) else (some (x184000, x184001, x184002, x184003, x184004, x184005, ((x184002 / 9223372036854775808) == 1), 0))) else (some (([] : List Int), 0, 0, 0, 0, 0, false, 4))))
end
def ledger_way_both_f24.f (k : Nat) (a0_0 : Int) (a0_1 : Int) (l1_0 : List Int) (a1_1 : Int) (a1_2 : Int) (a1_3 : Int) (a1_4 : Int) (a1_5 : Int) (a1_6 : Bool) (l2_0 : List Int) (a2_1 : Int) (a2_2 : Int) (a2_3 : Int) (a2_4 : Int) (a2_5 : Int) (a2_6 : Bool) : Option (List Int × Int × Int × Int × Int × Int × Bool × Int) := if (l1_0.length : Int) = (l2_0.length : Int) then ((ledger_entry_right.f k l1_0 a1_1 a1_2 a1_3 a1_4 a1_5 a1_6).bind fun t172 => (if t172 = true then ((ledger_entry_right.f k l2_0 a2_1 a2_2 a2_3 a2_4 a2_5 a2_6).bind fun t173 => (ledger_way_both_f24.j0 k (!t173) l1_0 a1_1 a1_2 a1_3 a1_4 a1_5 a1_6 l2_0 a2_1 a2_2 a2_3 a2_4 a2_5 a2_6)) else (ledger_way_both_f24.j0 k true l1_0 a1_1 a1_2 a1_3 a1_4 a1_5 a1_6 l2_0 a2_1 a2_2 a2_3 a2_4 a2_5 a2_6))) else (some (([] : List Int), 0, 0, 0, 0, 0, false, 1))
theorem ledger_way_both_f24.mono_l : ∀ k, (∀ y0 y1 y2 y3 y4 y5 y6 y7 y8 y9 y10 y11 y12 y13 y14, LeO (ledger_way_both_f24.j0 k y0 y1 y2 y3 y4 y5 y6 y7 y8 y9 y10 y11 y12 y13 y14) (ledger_way_both_f24.j0 (k + 1) y0 y1 y2 y3 y4 y5 y6 y7 y8 y9 y10 y11 y12 y13 y14)) ∧ (∀ y0 y1 y2 y3 y4 y5 y6 y7 y8 y9 y10 y11 y12 y13 y14 y15 y16 y17 y18 y19 y20 y21 y22, LeO (ledger_way_both_f24.l0 k y0 y1 y2 y3 y4 y5 y6 y7 y8 y9 y10 y11 y12 y13 y14 y15 y16 y17 y18 y19 y20 y21 y22) (ledger_way_both_f24.l0 (k + 1) y0 y1 y2 y3 y4 y5 y6 y7 y8 y9 y10 y11 y12 y13 y14 y15 y16 y17 y18 y19 y20 y21 y22))
 | 0 => ⟨fun _ _ _ _ _ _ _ _ _ _ _ _ _ _ _ r h => by simp [ledger_way_both_f24.j0] at h, fun _ _ _ _ _ _ _ _ _ _ _ _ _ _ _ _ _ _ _ _ _ _ _ r h => by simp [ledger_way_both_f24.l0] at h⟩
 | k + 1 => by
  obtain ⟨ih0, ih1⟩ := ledger_way_both_f24.mono_l k
  refine ⟨?_, ?_⟩
  ·
   intro y0 y1 y2 y3 y4 y5 y6 y7 y8 y9 y10 y11 y12 y13 y14
   unfold ledger_way_both_f24.j0
   repeat' first
   | (with_reducible exact ih0 _ _ _ _ _ _ _ _ _ _ _ _ _ _ _)
   | (with_reducible exact ih1 _ _ _ _ _ _ _ _ _ _ _ _ _ _ _ _ _ _ _ _ _ _ _)
   | (with_reducible exact ledger_entry_right.mono _ _ _ _ _ _ _ _)
   | (with_reducible exact LeO.refl _)
   | (with_reducible exact LeO.none _)
   | (with_reducible refine LeO.ite ?_ ?_)
   | (with_reducible refine LeO.bind ?_ (fun _ => ?_))
   | exact ih0 _ _ _ _ _ _ _ _ _ _ _ _ _ _ _
   | exact ih1 _ _ _ _ _ _ _ _ _ _ _ _ _ _ _ _ _ _ _ _ _ _ _
   | exact ledger_entry_right.mono _ _ _ _ _ _ _ _
   | exact LeO.none _
   | refine LeO.ite ?_ ?_
   | refine LeO.bind ?_ (fun _ => ?_)
  ·
   intro y0 y1 y2 y3 y4 y5 y6 y7 y8 y9 y10 y11 y12 y13 y14 y15 y16 y17 y18 y19 y20 y21 y22
   unfold ledger_way_both_f24.l0
   repeat' first
   | (with_reducible exact ih0 _ _ _ _ _ _ _ _ _ _ _ _ _ _ _)
   | (with_reducible exact ih1 _ _ _ _ _ _ _ _ _ _ _ _ _ _ _ _ _ _ _ _ _ _ _)
   | (with_reducible exact ledger_entry_right.mono _ _ _ _ _ _ _ _)
   | (with_reducible exact LeO.refl _)
   | (with_reducible exact LeO.none _)
   | (with_reducible refine LeO.ite ?_ ?_)
   | (with_reducible refine LeO.bind ?_ (fun _ => ?_))
   | exact ih0 _ _ _ _ _ _ _ _ _ _ _ _ _ _ _
   | exact ih1 _ _ _ _ _ _ _ _ _ _ _ _ _ _ _ _ _ _ _ _ _ _ _
   | exact ledger_entry_right.mono _ _ _ _ _ _ _ _
   | exact LeO.none _
   | refine LeO.ite ?_ ?_
   | refine LeO.bind ?_ (fun _ => ?_)
theorem ledger_way_both_f24.mono : ∀ a0 a1 a2 a3 a4 a5 a6 a7 a8 a9 a10 a11 a12 a13 a14 a15 k, LeO (ledger_way_both_f24.f k a0 a1 a2 a3 a4 a5 a6 a7 a8 a9 a10 a11 a12 a13 a14 a15) (ledger_way_both_f24.f (k + 1) a0 a1 a2 a3 a4 a5 a6 a7 a8 a9 a10 a11 a12 a13 a14 a15) := by
 intro a0 a1 a2 a3 a4 a5 a6 a7 a8 a9 a10 a11 a12 a13 a14 a15 k
 obtain ⟨ih0, ih1⟩ := ledger_way_both_f24.mono_l k
 unfold ledger_way_both_f24.f
 repeat' first
   | (with_reducible exact ih0 _ _ _ _ _ _ _ _ _ _ _ _ _ _ _)
   | (with_reducible exact ih1 _ _ _ _ _ _ _ _ _ _ _ _ _ _ _ _ _ _ _ _ _ _ _)
   | (with_reducible exact ledger_entry_right.mono _ _ _ _ _ _ _ _)
   | (with_reducible exact LeO.refl _)
   | (with_reducible exact LeO.none _)
   | (with_reducible refine LeO.ite ?_ ?_)
   | (with_reducible refine LeO.bind ?_ (fun _ => ?_))
   | exact ih0 _ _ _ _ _ _ _ _ _ _ _ _ _ _ _
   | exact ih1 _ _ _ _ _ _ _ _ _ _ _ _ _ _ _ _ _ _ _ _ _ _ _
   | exact ledger_entry_right.mono _ _ _ _ _ _ _ _
   | exact LeO.none _
   | refine LeO.ite ?_ ?_
   | refine LeO.bind ?_ (fun _ => ?_)
def ledger_way_both_f24.T5 : Bool × List (List Nat × List Nat) := (true, [([], []), ([0], [0]), ([], []), ([2], [2]), ([3], [3]), ([], []), ([5], [5]), ([6], [6]), ([1, 4, 7], [1, 4, 7]), ([], []), ([9], [9]), ([], []), ([11, 8], [11]), ([], []), ([13, 12], [13]), ([10, 12, 14, 14], [10, 12, 14]), ([], []), ([16], [16]), ([], []), ([18], [18]), ([19], [19]), ([], []), ([21], [21]), ([22], [22]), ([17, 20, 23, 15], [17, 20, 23]), ([8, 15, 24], [8, 15, 24]), ([25], [25]), ([], []), ([27, 26, 24, 0, 1, 2, 3, 4, 5, 6, 7, 8, 9, 10, 11, 12, 13, 14, 15, 16, 17, 18, 19, 20, 21, 22, 23, 24, 25, 26, 27], [26, 27])])
def ledger_way_both_f24.B5 : List Nat := [0, 1, 0, 4, 12, 0, 32, 96, 255, 0, 512, 0, 2559, 0, 14847, 32767, 0, 65536, 0, 262144, 786432, 0, 2097152, 6291456, 16777215, 33554431, 67108863, 0, 268435455]
theorem ledger_way_both_f24.tab5 : rtab .any (opsOf Try.f17 5) = ledger_way_both_f24.T5 := by kernel_rfl
theorem ledger_way_both_f24.bits5 : waitsOk ledger_way_both_f24.T5.2 ledger_way_both_f24.B5 = true := by kernel_rfl
def ledger_way_both_f24.T9 : Bool × List (List Nat × List Nat) := (true, [([], []), ([0], [0]), ([1], [1]), ([], []), ([3], [3]), ([], []), ([5], [5]), ([6], [6]), ([], []), ([7, 8], [7, 8]), ([9], [9]), ([], []), ([11], [11]), ([12], [12]), ([], []), ([13, 14], [13, 14]), ([15], [15]), ([4, 10, 16], [4, 10, 16]), ([17], [17]), ([2, 18, 17], [2, 18]), ([0, 1, 2, 3, 4, 5, 6, 7, 8, 9, 10, 11, 12, 13, 14, 15, 16, 17, 18, 19], []), ([20, 0, 1, 2, 3, 4, 5, 6, 7, 8, 9, 10, 11, 12, 13, 14, 15, 16, 17, 18, 19], [20]), ([21, 19, 19, 0, 1, 2, 3, 4, 5, 6, 7, 8, 9, 10, 11, 12, 13, 14, 15, 16, 17, 18, 19], [19, 21])])
def ledger_way_both_f24.B9 : List Nat := [0, 1, 3, 0, 8, 0, 32, 96, 0, 480, 992, 0, 2048, 6144, 0, 30720, 63488, 131064, 262136, 524287, 1048575, 2097151, 4194303]
theorem ledger_way_both_f24.tab9 : rtab .any (opsOf Try.f17 9) = ledger_way_both_f24.T9 := by kernel_rfl
theorem ledger_way_both_f24.bits9 : waitsOk ledger_way_both_f24.T9.2 ledger_way_both_f24.B9 = true := by kernel_rfl
set_option maxHeartbeats 8000000 in
set_option maxRecDepth 100000 in
theorem ledger_way_both_f24.calls (k : Nat) (a0_0 : Int) (a0_1 : Int) (A1_0 : Option Addr) (c1_0 : Nat) (l1_0 : List Int) (a1_1 : Int) (a1_2 : Int) (a1_3 : Int) (a1_4 : Int) (a1_5 : Int) (a1_6 : Bool) (A2_0 : Option Addr) (c2_0 : Nat) (l2_0 : List Int) (a2_1 : Int) (a2_2 : Int) (a2_3 : Int) (a2_4 : Int) (a2_5 : Int) (a2_6 : Bool) (r1 : List Int) (r2 : Int) (r3 : Int) (r4 : Int) (r5 : Int) (r6 : Int) (r7 : Bool) (r8 : Int) (w : World) (hr1_0 : Kd.C (Kd.int .i64) w A1_0 l1_0.length l1_0) (hc1_0 : l1_0.length ≤ c1_0) (hr2_0 : Kd.C (Kd.int .i64) w A2_0 l2_0.length l2_0) (hc2_0 : l2_0.length ≤ c2_0) (h : ledger_way_both_f24.f k a0_0 a0_1 l1_0 a1_1 a1_2 a1_3 a1_4 a1_5 a1_6 l2_0 a2_1 a2_2 a2_3 a2_4 a2_5 a2_6 = some (r1, r2, r3, r4, r5, r6, r7, r8)) :
  Calls Try.prog 17 #[.agg #[.func (.func 24) #[] #[], .func (.func 25) #[] #[]], .agg #[.slice A1_0 l1_0.length c1_0, .int .i64 a1_1, .int .u64 a1_2, .int .u64 a1_3, .int .u64 a1_4, .int .u64 a1_5, .bool a1_6], .agg #[.slice A2_0 l2_0.length c2_0, .int .i64 a2_1, .int .u64 a2_2, .int .u64 a2_3, .int .u64 a2_4, .int .u64 a2_5, .bool a2_6]] w fun e w' => ∃ v0_ : Value, e = .returned (.tuple #[.agg #[v0_, .int .i64 r2, .int .u64 r3, .int .u64 r4, .int .u64 r5, .int .u64 r6, .bool r7], .int .i64 r8]) ∧ Kd.R (Kd.int .i64) 3 w' w.heap.size (fun _ => True) v0_ r1 ∧ Below w.heap.size w w' := by
 have hu45 := Try.underlying45
 have hu48 := Try.underlying48
 have hu27 := Try.underlying27
 have hu25 := Try.underlying25
 have HR1_0 := Aside0.mk hr1_0
 have HC1_0 := Aside0.mk hc1_0
 clear hr1_0 hc1_0
 have HR2_0 := Aside0.mk hr2_0
 have HC2_0 := Aside0.mk hc2_0
 clear hr2_0 hc2_0
 have HB := Aside0.mk (Below.refl w.heap.size w)
 have H : (if (l1_0.length : Int) = (l2_0.length : Int) then ((ledger_entry_right.f k l1_0 a1_1 a1_2 a1_3 a1_4 a1_5 a1_6).bind fun t172 => (if t172 = true then ((ledger_entry_right.f k l2_0 a2_1 a2_2 a2_3 a2_4 a2_5 a2_6).bind fun t173 => (ledger_way_both_f24.j0 k (!t173) l1_0 a1_1 a1_2 a1_3 a1_4 a1_5 a1_6 l2_0 a2_1 a2_2 a2_3 a2_4 a2_5 a2_6)) else (ledger_way_both_f24.j0 k true l1_0 a1_1 a1_2 a1_3 a1_4 a1_5 a1_6 l2_0 a2_1 a2_2 a2_3 a2_4 a2_5 a2_6))) else (some (([] : List Int), 0, 0, 0, 0, 0, false, 1))) = some (r1, r2, r3, r4, r5, r6, r7, r8) := h
 clear h
 by_cases c4 : (l1_0.length : Int) = (l2_0.length : Int)
 ·
  rw [if_pos c4] at H
  have c4b0 : ((l1_0.length : Int) == (l2_0.length : Int)) = true := beq_iff_eq.mpr c4
  have c4b1 : ((l1_0.length : Int) != (l2_0.length : Int)) = false := bne_eq_false_iff_eq.mpr c4
  have c4b2 : (l1_0.length == l2_0.length) = true := by first | simpa using c4 | (simp at c4 ⊢; omega)
  clear c4
  have HC5 := Aside0.mk H
  clear H
  go_enter Try.func17, Try.ntmps17
  go_upto_region 3 with (first | ((with_reducible refine gate_dst (N := 3) rfl ?_); refine box_event ?hg (N := 3) ?hd (cs := #[.func (.func 24) #[] #[], .func (.func 25) #[] #[]]) (t := 45) ?hr ?_; (case hd => rfl); (case hg => rfl); (case hr => first | (go_simp; done) | (go_simp; rfl)); intro gb168 hg w6 hbox hb; have n0_ := Aside0.mk (below_step (by repeat (first | (with_reducible first | exact HB.out | apply below_alloc | apply pw_below_drewN | apply below_drew1) | exact HB.out)) hb); have n1_ := Aside0.mk (hbox); have n2_ := Aside0.mk ((by rw [hg]; exact (below_size (by repeat (first | (with_reducible first | exact HB.out | apply below_alloc | apply pw_below_drewN | apply below_drew1) | exact HB.out))) : w.heap.size ≤ gb168)); have n3_ := Aside0.mk ((by rw [hg]; exact (below_size (by repeat (first | (with_reducible first | exact HB.out | apply below_alloc | apply pw_below_drewN | apply below_drew1) | exact HB.out))) : w.heap.size ≤ gb168)); clear HB; have HB := n0_; have BK168 := n1_; have GW168 := n2_; have GE168 := n3_; clear n0_ n1_ n2_ n3_; clear hb hbox hg) | ((with_reducible refine gate_dst (N := 4) rfl ?_); refine box_event ?hg (N := 4) ?hd (cs := #[.slice A1_0 l1_0.length c1_0, .int .i64 a1_1, .int .u64 a1_2, .int .u64 a1_3, .int .u64 a1_4, .int .u64 a1_5, .bool a1_6]) (t := 48) ?hr ?_; (case hd => rfl); (case hg => rfl); (case hr => first | (go_simp; done) | (go_simp; rfl)); intro gb169 hg w7 hbox hb; have n0_ := ledger_way_both_f24.keepB BK168 hb; have n1_ := Aside0.mk (below_step (by repeat (first | (with_reducible first | exact HB.out | apply below_alloc | apply pw_below_drewN | apply below_drew1 | refine below_set ?_ GE168.out) | exact HB.out)) hb); have n2_ := Aside0.mk (hbox); have n3_ := Aside0.mk ((by rw [hg]; exact (below_size (by repeat (first | (with_reducible first | exact HB.out | apply below_alloc | apply pw_below_drewN | apply below_drew1 | refine below_set ?_ GE168.out) | exact HB.out))) : w.heap.size ≤ gb169)); have n4_ := Aside0.mk ((by rw [hg]; exact (below_size (by repeat (first | (with_reducible first | exact HB.out | apply below_alloc | apply pw_below_drewN | apply below_drew1 | refine below_set ?_ GE168.out) | exact HB.out))) : w.heap.size ≤ gb169)); have n5_ := ledger_way_both_f24.neL BK168 hg; have n6_ := ledger_way_both_f24.neG BK168 hg; clear BK168; clear HB; have BK168 := n0_; have HB := n1_; have BK169 := n2_; have GW169 := n3_; have GE169 := n4_; have NB168_169 := n5_; have NB169_168 := n6_; clear n0_ n1_ n2_ n3_ n4_ n5_ n6_; clear hb hbox hg) | ((with_reducible refine gate_dst (N := 5) rfl ?_); refine box_event ?hg (N := 5) ?hd (cs := #[.slice A2_0 l2_0.length c2_0, .int .i64 a2_1, .int .u64 a2_2, .int .u64 a2_3, .int .u64 a2_4, .int .u64 a2_5, .bool a2_6]) (t := 48) ?hr ?_; (case hd => rfl); (case hg => rfl); (case hr => first | (go_simp; done) | (go_simp; rfl)); intro gb170 hg w8 hbox hb; have n0_ := ledger_way_both_f24.keepB BK168 hb; have n1_ := ledger_way_both_f24.keepB BK169 hb; have n2_ := Aside0.mk (below_step (by repeat (first | (with_reducible first | exact HB.out | apply below_alloc | apply pw_below_drewN | apply below_drew1 | refine below_set ?_ GE168.out | refine below_set ?_ GE169.out) | exact HB.out)) hb); have n3_ := Aside0.mk (hbox); have n4_ := Aside0.mk ((by rw [hg]; exact (below_size (by repeat (first | (with_reducible first | exact HB.out | apply below_alloc | apply pw_below_drewN | apply below_drew1 | refine below_set ?_ GE168.out | refine below_set ?_ GE169.out) | exact HB.out))) : w.heap.size ≤ gb170)); have n5_ := Aside0.mk ((by rw [hg]; exact (below_size (by repeat (first | (with_reducible first | exact HB.out | apply below_alloc | apply pw_below_drewN | apply below_drew1 | refine below_set ?_ GE168.out | refine below_set ?_ GE169.out) | exact HB.out))) : w.heap.size ≤ gb170)); have n6_ := ledger_way_both_f24.neL BK168 hg; have n7_ := ledger_way_both_f24.neG BK168 hg; have n8_ := ledger_way_both_f24.neL BK169 hg; have n9_ := ledger_way_both_f24.neG BK169 hg; clear BK168; clear BK169; clear HB; have BK168 := n0_; have BK169 := n1_; have HB := n2_; have BK170 := n3_; have GW170 := n4_; have GE170 := n5_; have NB168_170 := n6_; have NB170_168 := n7_; have NB169_170 := n8_; have NB170_169 := n9_; clear n0_ n1_ n2_ n3_ n4_ n5_ n6_ n7_ n8_ n9_; clear hb hbox hg) | ((with_reducible refine gate_dst (N := 6) rfl ?_); refine box_event ?hg (N := 6) ?hd (cs := #[.slice none 0 0, .int .i64 0, .int .u64 0, .int .u64 0, .int .u64 0, .int .u64 0, .bool false]) (t := 27) ?hr ?_; (case hd => rfl); (case hg => rfl); (case hr => first | (go_simp; done) | (go_simp; rfl)); intro gb171 hg w9 hbox hb; have n0_ := ledger_way_both_f24.keepB BK168 hb; have n1_ := ledger_way_both_f24.keepB BK169 hb; have n2_ := ledger_way_both_f24.keepB BK170 hb; have n3_ := Aside0.mk (below_step (by repeat (first | (with_reducible first | exact HB.out | apply below_alloc | apply pw_below_drewN | apply below_drew1 | refine below_set ?_ GE168.out | refine below_set ?_ GE169.out | refine below_set ?_ GE170.out) | exact HB.out)) hb); have n4_ := Aside0.mk (hbox); have n5_ := Aside0.mk ((by rw [hg]; exact (below_size (by repeat (first | (with_reducible first | exact HB.out | apply below_alloc | apply pw_below_drewN | apply below_drew1 | refine below_set ?_ GE168.out | refine below_set ?_ GE169.out | refine below_set ?_ GE170.out) | exact HB.out))) : w.heap.size ≤ gb171)); have n6_ := Aside0.mk ((by rw [hg]; exact (below_size (by repeat (first | (with_reducible first | exact HB.out | apply below_alloc | apply pw_below_drewN | apply below_drew1 | refine below_set ?_ GE168.out | refine below_set ?_ GE169.out | refine below_set ?_ GE170.out) | exact HB.out))) : w.heap.size ≤ gb171)); have n7_ := ledger_way_both_f24.neL BK168 hg; have n8_ := ledger_way_both_f24.neG BK168 hg; have n9_ := ledger_way_both_f24.neL BK169 hg; have n10_ := ledger_way_both_f24.neG BK169 hg; have n11_ := ledger_way_both_f24.neL BK170 hg; have n12_ := ledger_way_both_f24.neG BK170 hg; clear BK168; clear BK169; clear BK170; clear HB; have BK168 := n0_; have BK169 := n1_; have BK170 := n2_; have HB := n3_; have BK171 := n4_; have GW171 := n5_; have GE171 := n6_; have NB168_171 := n7_; have NB171_168 := n8_; have NB169_171 := n9_; have NB171_169 := n10_; have NB170_171 := n11_; have NB171_170 := n12_; clear n0_ n1_ n2_ n3_ n4_ n5_ n6_ n7_ n8_ n9_ n10_ n11_ n12_; clear hb hbox hg; have hnb10 := NB169_168.out; have hnc10 := NB168_169.out; have hnb11 := NB169_170.out; have hnc11 := NB170_169.out; have hnb12 := NB169_171.out; have hnc12 := NB171_169.out; have hcz13_0 : w9.cell? ⟨gb169, 0, none⟩ = some (.slice A1_0 l1_0.length c1_0) := (blk_cell BK169.out 0).trans rfl; have hcz13_1 : w9.cell? ⟨gb169, 1, none⟩ = some (.int .i64 a1_1) := (blk_cell BK169.out 1).trans rfl; have hcz13_2 : w9.cell? ⟨gb169, 2, none⟩ = some (.int .u64 a1_2) := (blk_cell BK169.out 2).trans rfl; have hcz13_3 : w9.cell? ⟨gb169, 3, none⟩ = some (.int .u64 a1_3) := (blk_cell BK169.out 3).trans rfl; have hcz13_4 : w9.cell? ⟨gb169, 4, none⟩ = some (.int .u64 a1_4) := (blk_cell BK169.out 4).trans rfl; have hcz13_5 : w9.cell? ⟨gb169, 5, none⟩ = some (.int .u64 a1_5) := (blk_cell BK169.out 5).trans rfl; have hcz13_6 : w9.cell? ⟨gb169, 6, none⟩ = some (.bool a1_6) := (blk_cell BK169.out 6).trans rfl; have hfz13_0 := blk_frozen BK169.out 0; have hfz13_1 := blk_frozen BK169.out 1; have hfz13_2 := blk_frozen BK169.out 2; have hfz13_3 := blk_frozen BK169.out 3; have hfz13_4 := blk_frozen BK169.out 4; have hfz13_5 := blk_frozen BK169.out 5; have hfz13_6 := blk_frozen BK169.out 6; have hnb14 := NB170_168.out; have hnc14 := NB168_170.out; have hnb15 := NB170_171.out; have hnc15 := NB171_170.out; have hcz16_0 : w9.cell? ⟨gb170, 0, none⟩ = some (.slice A2_0 l2_0.length c2_0) := (blk_cell BK170.out 0).trans rfl; have hcz16_1 : w9.cell? ⟨gb170, 1, none⟩ = some (.int .i64 a2_1) := (blk_cell BK170.out 1).trans rfl; have hcz16_2 : w9.cell? ⟨gb170, 2, none⟩ = some (.int .u64 a2_2) := (blk_cell BK170.out 2).trans rfl; have hcz16_3 : w9.cell? ⟨gb170, 3, none⟩ = some (.int .u64 a2_3) := (blk_cell BK170.out 3).trans rfl; have hcz16_4 : w9.cell? ⟨gb170, 4, none⟩ = some (.int .u64 a2_4) := (blk_cell BK170.out 4).trans rfl; have hcz16_5 : w9.cell? ⟨gb170, 5, none⟩ = some (.int .u64 a2_5) := (blk_cell BK170.out 5).trans rfl; have hcz16_6 : w9.cell? ⟨gb170, 6, none⟩ = some (.bool a2_6) := (blk_cell BK170.out 6).trans rfl; have hfz16_0 := blk_frozen BK170.out 0; have hfz16_1 := blk_frozen BK170.out 1; have hfz16_2 := blk_frozen BK170.out 2; have hfz16_3 := blk_frozen BK170.out 3; have hfz16_4 := blk_frozen BK170.out 4; have hfz16_5 := blk_frozen BK170.out 5; have hfz16_6 := blk_frozen BK170.out 6))
  (try simp only [Act.put, List.setIfInBounds_toArray, List.set_cons_zero, List.set_cons_succ])
  go_cut [27] (fun v27 wc => ∃ (kq : Nat) (x27_4 : Bool), v27 = .bool x27_4 ∧ Aside0 (ledger_way_both_f24.j0 kq x27_4 l1_0 a1_1 a1_2 a1_3 a1_4 a1_5 a1_6 l2_0 a2_1 a2_2 a2_3 a2_4 a2_5 a2_6 = some (r1, r2, r3, r4, r5, r6, r7, r8)) ∧ Aside0 (kq ≤ k) ∧ Aside0 (wc.heap[gb168]? = some (.cells #[.func (.func 24) #[] #[], .func (.func 25) #[] #[]] 45 (0, 0))) ∧ Aside0 (wc.heap[gb169]? = some (.cells #[(.slice A1_0 l1_0.length c1_0), .int .i64 a1_1, .int .u64 a1_2, .int .u64 a1_3, .int .u64 a1_4, .int .u64 a1_5, .bool a1_6] 48 (0, 0))) ∧ Aside0 (wc.heap[gb170]? = some (.cells #[(.slice A2_0 l2_0.length c2_0), .int .i64 a2_1, .int .u64 a2_2, .int .u64 a2_3, .int .u64 a2_4, .int .u64 a2_5, .bool a2_6] 48 (0, 0))) ∧ Aside0 (wc.heap[gb171]? = some (.cells #[(.slice none 0 0), .int .i64 0, .int .u64 0, .int .u64 0, .int .u64 0, .int .u64 0, .bool false] 27 (0, 0))) ∧ Aside0 (Below w.heap.size w wc))
  case first =>
   have H := HC5.out
   clear HC5
   replace H := Option.bind_eq_some_iff.mp H
   obtain ⟨t172, A170, H⟩ := H
   replace H : (if t172 = true then ((ledger_entry_right.f k l2_0 a2_1 a2_2 a2_3 a2_4 a2_5 a2_6).bind fun t173 => (ledger_way_both_f24.j0 k (!t173) l1_0 a1_1 a1_2 a1_3 a1_4 a1_5 a1_6 l2_0 a2_1 a2_2 a2_3 a2_4 a2_5 a2_6)) else (ledger_way_both_f24.j0 k true l1_0 a1_1 a1_2 a1_3 a1_4 a1_5 a1_6 l2_0 a2_1 a2_2 a2_3 a2_4 a2_5 a2_6)) = some (r1, r2, r3, r4, r5, r6, r7, r8) := H
   have A17 := Aside0.mk A170
   clear A170
   by_cases c18 : t172 = true
   ·
    subst c18
    have H1 : ((ledger_entry_right.f k l2_0 a2_1 a2_2 a2_3 a2_4 a2_5 a2_6).bind fun t173 => (ledger_way_both_f24.j0 k (!t173) l1_0 a1_1 a1_2 a1_3 a1_4 a1_5 a1_6 l2_0 a2_1 a2_2 a2_3 a2_4 a2_5 a2_6)) = some (r1, r2, r3, r4, r5, r6, r7, r8) := by rw [if_pos rfl] at H; exact H
    clear H
    have H := H1
    clear H1
    replace H := Option.bind_eq_some_iff.mp H
    obtain ⟨t173, A190, H⟩ := H
    replace H : (ledger_way_both_f24.j0 k (!t173) l1_0 a1_1 a1_2 a1_3 a1_4 a1_5 a1_6 l2_0 a2_1 a2_2 a2_3 a2_4 a2_5 a2_6) = some (r1, r2, r3, r4, r5, r6, r7, r8) := H
    have A19 := Aside0.mk A190
    clear A190
    have H' := Aside0.mk H
    clear H
    have hnb20 := NB169_168.out
    have hnc20 := NB168_169.out
    have hnb21 := NB169_170.out
    have hnc21 := NB170_169.out
    have hnb22 := NB169_171.out
    have hnc22 := NB171_169.out
    have hcz23_0 : w9.cell? ⟨gb169, 0, none⟩ = some (.slice A1_0 l1_0.length c1_0) := (blk_cell BK169.out 0).trans rfl
    have hcz23_1 : w9.cell? ⟨gb169, 1, none⟩ = some (.int .i64 a1_1) := (blk_cell BK169.out 1).trans rfl
    have hcz23_2 : w9.cell? ⟨gb169, 2, none⟩ = some (.int .u64 a1_2) := (blk_cell BK169.out 2).trans rfl
    have hcz23_3 : w9.cell? ⟨gb169, 3, none⟩ = some (.int .u64 a1_3) := (blk_cell BK169.out 3).trans rfl
    have hcz23_4 : w9.cell? ⟨gb169, 4, none⟩ = some (.int .u64 a1_4) := (blk_cell BK169.out 4).trans rfl
    have hcz23_5 : w9.cell? ⟨gb169, 5, none⟩ = some (.int .u64 a1_5) := (blk_cell BK169.out 5).trans rfl
    have hcz23_6 : w9.cell? ⟨gb169, 6, none⟩ = some (.bool a1_6) := (blk_cell BK169.out 6).trans rfl
    have hfz23_0 := blk_frozen BK169.out 0
    have hfz23_1 := blk_frozen BK169.out 1
    have hfz23_2 := blk_frozen BK169.out 2
    have hfz23_3 := blk_frozen BK169.out 3
    have hfz23_4 := blk_frozen BK169.out 4
    have hfz23_5 := blk_frozen BK169.out 5
    have hfz23_6 := blk_frozen BK169.out 6
    go_wp2_with (first | ((with_reducible refine gate_callee (f := 31) rfl ?_); refine goesL_ (some 21) rfl rfl Try.func31 (by kernel_rfl) rfl #[.agg #[.slice A1_0 l1_0.length c1_0, .int .i64 a1_1, .int .u64 a1_2, .int .u64 a1_3, .int .u64 a1_4, .int .u64 a1_5, .bool a1_6]] rfl (by (try simp only [List.map_toArray, List.map_cons, List.map_nil]); first | done | rfl | (simp only [List.length_drop, List.length_take]; rfl)) ?_; (with_reducible refine (ledger_entry_right.calls k _ _ l1_0 a1_1 a1_2 a1_3 a1_4 a1_5 a1_6 true _ ?side1 ?side2 A17.out).mono ?_); (case side1 => repeat (first | exact (Kd.C_below HR1_0.out HB.out) | (with_reducible refine Kd.C_alloc ?_ _) | (with_reducible refine Kd.C_drewN ?_ _) | (with_reducible refine Kd.C_drew ?_))); (case side2 => exact HC1_0.out); rintro e w24 ⟨rfl, hb⟩; refine ⟨_, rfl, ?_⟩; have n0_ := ledger_way_both_f24.keepB BK168 hb; have n1_ := ledger_way_both_f24.keepB BK169 hb; have n2_ := ledger_way_both_f24.keepB BK170 hb; have n3_ := ledger_way_both_f24.keepB BK171 hb; have n4_ := Aside0.mk (below_step (by repeat (first | (with_reducible first | exact HB.out | apply below_alloc | apply pw_below_drewN | apply below_drew1 | refine below_set ?_ GE168.out | refine below_set ?_ GE169.out | refine below_set ?_ GE170.out | refine below_set ?_ GE171.out) | exact HB.out)) hb); clear BK168; clear BK169; clear BK170; clear BK171; clear HB; have BK168 := n0_; have BK169 := n1_; have BK170 := n2_; have BK171 := n3_; have HB := n4_; clear n0_ n1_ n2_ n3_ n4_; (try clear hb); (try clear hb2); (try clear hk); (try clear hi); have hnb25 := NB170_168.out; have hnc25 := NB168_170.out; have hnb26 := NB170_171.out; have hnc26 := NB171_170.out; have hcz27_0 : w24.cell? ⟨gb170, 0, none⟩ = some (.slice A2_0 l2_0.length c2_0) := (blk_cell BK170.out 0).trans rfl; have hcz27_1 : w24.cell? ⟨gb170, 1, none⟩ = some (.int .i64 a2_1) := (blk_cell BK170.out 1).trans rfl; have hcz27_2 : w24.cell? ⟨gb170, 2, none⟩ = some (.int .u64 a2_2) := (blk_cell BK170.out 2).trans rfl; have hcz27_3 : w24.cell? ⟨gb170, 3, none⟩ = some (.int .u64 a2_3) := (blk_cell BK170.out 3).trans rfl; have hcz27_4 : w24.cell? ⟨gb170, 4, none⟩ = some (.int .u64 a2_4) := (blk_cell BK170.out 4).trans rfl; have hcz27_5 : w24.cell? ⟨gb170, 5, none⟩ = some (.int .u64 a2_5) := (blk_cell BK170.out 5).trans rfl; have hcz27_6 : w24.cell? ⟨gb170, 6, none⟩ = some (.bool a2_6) := (blk_cell BK170.out 6).trans rfl; have hfz27_0 := blk_frozen BK170.out 0; have hfz27_1 := blk_frozen BK170.out 1; have hfz27_2 := blk_frozen BK170.out 2; have hfz27_3 := blk_frozen BK170.out 3; have hfz27_4 := blk_frozen BK170.out 4; have hfz27_5 := blk_frozen BK170.out 5; have hfz27_6 := blk_frozen BK170.out 6) | (go_at_call 31; (with_reducible refine (ledger_entry_right.calls k _ _ l2_0 a2_1 a2_2 a2_3 a2_4 a2_5 a2_6 t173 _ ?side1 ?side2 A19.out).mono ?_); (case side1 => repeat (first | exact (Kd.C_below HR2_0.out HB.out) | (with_reducible refine Kd.C_alloc ?_ _) | (with_reducible refine Kd.C_drewN ?_ _) | (with_reducible refine Kd.C_drew ?_))); (case side2 => exact HC2_0.out); rintro e w28 ⟨rfl, hb⟩; have n0_ := ledger_way_both_f24.keepB BK168 hb; have n1_ := ledger_way_both_f24.keepB BK169 hb; have n2_ := ledger_way_both_f24.keepB BK170 hb; have n3_ := ledger_way_both_f24.keepB BK171 hb; have n4_ := Aside0.mk (below_step (by repeat (first | (with_reducible first | exact HB.out | apply below_alloc | apply pw_below_drewN | apply below_drew1 | refine below_set ?_ GE168.out | refine below_set ?_ GE169.out | refine below_set ?_ GE170.out | refine below_set ?_ GE171.out) | exact HB.out)) hb); clear BK168; clear BK169; clear BK170; clear BK171; clear HB; have BK168 := n0_; have BK169 := n1_; have BK170 := n2_; have BK171 := n3_; have HB := n4_; clear n0_ n1_ n2_ n3_ n4_; (try clear hb); (try clear hb2); (try clear hk); (try clear hi)))
    go_meet
    case rel => exact ⟨_, (!t173), (by first | rfl | (simp; done) | (simp [*]; done)), H', ⟨by first | omega | exact Nat.le_refl _⟩, ⟨by (with_reducible repeat (first | refine blk_drewN ?_ _ | refine blk_drew ?_ | refine blk_alloc ?_ _)); exact BK168.out⟩, ⟨by (with_reducible repeat (first | refine blk_drewN ?_ _ | refine blk_drew ?_ | refine blk_alloc ?_ _)); exact BK169.out⟩, ⟨by (with_reducible repeat (first | refine blk_drewN ?_ _ | refine blk_drew ?_ | refine blk_alloc ?_ _)); exact BK170.out⟩, ⟨by (with_reducible repeat (first | refine blk_drewN ?_ _ | refine blk_drew ?_ | refine blk_alloc ?_ _)); exact BK171.out⟩, ⟨by repeat (first | (with_reducible first | exact HB.out | apply below_alloc | apply pw_below_drewN | apply below_drew1 | refine below_set ?_ GE168.out | refine below_set ?_ GE169.out | refine below_set ?_ GE170.out | refine below_set ?_ GE171.out) | exact HB.out)⟩⟩
   ·
    replace c18 := Bool.eq_false_iff.mpr c18
    subst c18
    have H1 : (ledger_way_both_f24.j0 k true l1_0 a1_1 a1_2 a1_3 a1_4 a1_5 a1_6 l2_0 a2_1 a2_2 a2_3 a2_4 a2_5 a2_6) = some (r1, r2, r3, r4, r5, r6, r7, r8) := by rw [if_neg (show ¬ (false = true) by decide)] at H; exact H
    clear H
    have H := H1
    clear H1
    have H' := Aside0.mk H
    clear H
    have hnb29 := NB169_168.out
    have hnc29 := NB168_169.out
    have hnb30 := NB169_170.out
    have hnc30 := NB170_169.out
    have hnb31 := NB169_171.out
    have hnc31 := NB171_169.out
    have hcz32_0 : w9.cell? ⟨gb169, 0, none⟩ = some (.slice A1_0 l1_0.length c1_0) := (blk_cell BK169.out 0).trans rfl
    have hcz32_1 : w9.cell? ⟨gb169, 1, none⟩ = some (.int .i64 a1_1) := (blk_cell BK169.out 1).trans rfl
    have hcz32_2 : w9.cell? ⟨gb169, 2, none⟩ = some (.int .u64 a1_2) := (blk_cell BK169.out 2).trans rfl
    have hcz32_3 : w9.cell? ⟨gb169, 3, none⟩ = some (.int .u64 a1_3) := (blk_cell BK169.out 3).trans rfl
    have hcz32_4 : w9.cell? ⟨gb169, 4, none⟩ = some (.int .u64 a1_4) := (blk_cell BK169.out 4).trans rfl
    have hcz32_5 : w9.cell? ⟨gb169, 5, none⟩ = some (.int .u64 a1_5) := (blk_cell BK169.out 5).trans rfl
    have hcz32_6 : w9.cell? ⟨gb169, 6, none⟩ = some (.bool a1_6) := (blk_cell BK169.out 6).trans rfl
    have hfz32_0 := blk_frozen BK169.out 0
    have hfz32_1 := blk_frozen BK169.out 1
    have hfz32_2 := blk_frozen BK169.out 2
    have hfz32_3 := blk_frozen BK169.out 3
    have hfz32_4 := blk_frozen BK169.out 4
    have hfz32_5 := blk_frozen BK169.out 5
    have hfz32_6 := blk_frozen BK169.out 6
    go_wp2_with (first | ((with_reducible refine gate_callee (f := 31) rfl ?_); refine goesL_ (some 21) rfl rfl Try.func31 (by kernel_rfl) rfl #[.agg #[.slice A1_0 l1_0.length c1_0, .int .i64 a1_1, .int .u64 a1_2, .int .u64 a1_3, .int .u64 a1_4, .int .u64 a1_5, .bool a1_6]] rfl (by (try simp only [List.map_toArray, List.map_cons, List.map_nil]); first | done | rfl | (simp only [List.length_drop, List.length_take]; rfl)) ?_; (with_reducible refine (ledger_entry_right.calls k _ _ l1_0 a1_1 a1_2 a1_3 a1_4 a1_5 a1_6 false _ ?side1 ?side2 A17.out).mono ?_); (case side1 => repeat (first | exact (Kd.C_below HR1_0.out HB.out) | (with_reducible refine Kd.C_alloc ?_ _) | (with_reducible refine Kd.C_drewN ?_ _) | (with_reducible refine Kd.C_drew ?_))); (case side2 => exact HC1_0.out); rintro e w33 ⟨rfl, hb⟩; refine ⟨_, rfl, ?_⟩; have n0_ := ledger_way_both_f24.keepB BK168 hb; have n1_ := ledger_way_both_f24.keepB BK169 hb; have n2_ := ledger_way_both_f24.keepB BK170 hb; have n3_ := ledger_way_both_f24.keepB BK171 hb; have n4_ := Aside0.mk (below_step (by repeat (first | (with_reducible first | exact HB.out | apply below_alloc | apply pw_below_drewN | apply below_drew1 | refine below_set ?_ GE168.out | refine below_set ?_ GE169.out | refine below_set ?_ GE170.out | refine below_set ?_ GE171.out) | exact HB.out)) hb); clear BK168; clear BK169; clear BK170; clear BK171; clear HB; have BK168 := n0_; have BK169 := n1_; have BK170 := n2_; have BK171 := n3_; have HB := n4_; clear n0_ n1_ n2_ n3_ n4_; (try clear hb); (try clear hb2); (try clear hk); (try clear hi)))
    go_meet
    case rel => exact ⟨_, (true), (by first | rfl | (simp; done) | (simp [*]; done)), H', ⟨by first | omega | exact Nat.le_refl _⟩, ⟨by (with_reducible repeat (first | refine blk_drewN ?_ _ | refine blk_drew ?_ | refine blk_alloc ?_ _)); exact BK168.out⟩, ⟨by (with_reducible repeat (first | refine blk_drewN ?_ _ | refine blk_drew ?_ | refine blk_alloc ?_ _)); exact BK169.out⟩, ⟨by (with_reducible repeat (first | refine blk_drewN ?_ _ | refine blk_drew ?_ | refine blk_alloc ?_ _)); exact BK170.out⟩, ⟨by (with_reducible repeat (first | refine blk_drewN ?_ _ | refine blk_drew ?_ | refine blk_alloc ?_ _)); exact BK171.out⟩, ⟨by repeat (first | (with_reducible first | exact HB.out | apply below_alloc | apply pw_below_drewN | apply below_drew1 | refine below_set ?_ GE168.out | refine below_set ?_ GE169.out | refine below_set ?_ GE170.out | refine below_set ?_ GE171.out) | exact HB.out)⟩⟩
  case rest =>
   clear HC5
   try clear c1
   try clear c2
   try clear p2
   try clear c3
   try clear c4
   try clear c4b0
   try clear c4b1
   try clear c4b2
   try clear c9
   try clear c10
   try clear c11
   try clear c12
   try clear c14
   try clear c15
   try clear c18
   try clear c20
   try clear c21
   try clear c22
   try clear c25
   try clear c26
   try clear c29
   try clear c30
   try clear c31
   try clear hcz13_0
   try clear hcz13_1
   try clear hcz13_2
   try clear hcz13_3
   try clear hcz13_4
   try clear hcz13_5
   try clear hcz13_6
   try clear hcz16_0
   try clear hcz16_1
   try clear hcz16_2
   try clear hcz16_3
   try clear hcz16_4
   try clear hcz16_5
   try clear hcz16_6
   try clear hcz23_0
   try clear hcz23_1
   try clear hcz23_2
   try clear hcz23_3
   try clear hcz23_4
   try clear hcz23_5
   try clear hcz23_6
   try clear hcz27_0
   try clear hcz27_1
   try clear hcz27_2
   try clear hcz27_3
   try clear hcz27_4
   try clear hcz27_5
   try clear hcz27_6
   try clear hcz32_0
   try clear hcz32_1
   try clear hcz32_2
   try clear hcz32_3
   try clear hcz32_4
   try clear hcz32_5
   try clear hcz32_6
   try clear hfz13_0
   try clear hfz13_1
   try clear hfz13_2
   try clear hfz13_3
   try clear hfz13_4
   try clear hfz13_5
   try clear hfz13_6
   try clear hfz16_0
   try clear hfz16_1
   try clear hfz16_2
   try clear hfz16_3
   try clear hfz16_4
   try clear hfz16_5
   try clear hfz16_6
   try clear hfz23_0
   try clear hfz23_1
   try clear hfz23_2
   try clear hfz23_3
   try clear hfz23_4
   try clear hfz23_5
   try clear hfz23_6
   try clear hfz27_0
   try clear hfz27_1
   try clear hfz27_2
   try clear hfz27_3
   try clear hfz27_4
   try clear hfz27_5
   try clear hfz27_6
   try clear hfz32_0
   try clear hfz32_1
   try clear hfz32_2
   try clear hfz32_3
   try clear hfz32_4
   try clear hfz32_5
   try clear hfz32_6
   obtain ⟨kq, x27_4, rfl, HA, HJ4, BK168, BK169, BK170, BK171, HB⟩ := hcut
   cases kq with
   | zero => exact absurd HA.out (by simp [ledger_way_both_f24.j0])
   | succ kj4 =>
    have H := HA.out
    clear HA
    simp only [ledger_way_both_f24.j0] at H
    by_cases c34 : x27_4 = true
    ·
     subst c34
     have H1 : (some (([] : List Int), 0, 0, 0, 0, 0, false, 4)) = some (r1, r2, r3, r4, r5, r6, r7, r8) := by rw [if_pos rfl] at H; exact H
     clear H
     have H := H1
     clear H1
     simp only [Option.some.injEq, Prod.mk.injEq] at H
     obtain ⟨rfl, rfl, rfl, rfl, rfl, rfl, rfl, rfl⟩ := H
     have hnb35 := NB171_168.out
     have hnc35 := NB168_171.out
     have hnb36 := NB171_169.out
     have hnc36 := NB169_171.out
     have hnb37 := NB171_170.out
     have hnc37 := NB170_171.out
     have hcz38_0 : wc.cell? ⟨gb171, 0, none⟩ = some (.slice none 0 0) := (blk_cell BK171.out 0).trans rfl
     have hcz38_1 : wc.cell? ⟨gb171, 1, none⟩ = some (.int .i64 0) := (blk_cell BK171.out 1).trans rfl
     have hcz38_2 : wc.cell? ⟨gb171, 2, none⟩ = some (.int .u64 0) := (blk_cell BK171.out 2).trans rfl
     have hcz38_3 : wc.cell? ⟨gb171, 3, none⟩ = some (.int .u64 0) := (blk_cell BK171.out 3).trans rfl
     have hcz38_4 : wc.cell? ⟨gb171, 4, none⟩ = some (.int .u64 0) := (blk_cell BK171.out 4).trans rfl
     have hcz38_5 : wc.cell? ⟨gb171, 5, none⟩ = some (.int .u64 0) := (blk_cell BK171.out 5).trans rfl
     have hcz38_6 : wc.cell? ⟨gb171, 6, none⟩ = some (.bool false) := (blk_cell BK171.out 6).trans rfl
     have hfz38_0 := blk_frozen BK171.out 0
     have hfz38_1 := blk_frozen BK171.out 1
     have hfz38_2 := blk_frozen BK171.out 2
     have hfz38_3 := blk_frozen BK171.out 3
     have hfz38_4 := blk_frozen BK171.out 4
     have hfz38_5 := blk_frozen BK171.out 5
     have hfz38_6 := blk_frozen BK171.out 6
     go_wp2
     refine bodyPost_ret (results_ct rfl _ _ gb171 27 #[.slice none 0 0, .int .i64 0, .int .u64 0, .int .u64 0, .int .u64 0, .int .u64 0, .bool false] (0, 0) _ rfl (by (with_reducible repeat (first | refine blk_drewN ?_ _ | refine blk_drew ?_ | refine blk_alloc ?_ _)); refine blk_put (cs := #[.slice none 0 0, .int .i64 0, .int .u64 0, .int .u64 0, .int .u64 0, .int .u64 0, .bool false]) ?_ 6 _ rfl; (with_reducible repeat (first | refine blk_drewN ?_ _ | refine blk_drew ?_ | refine blk_alloc ?_ _)); refine blk_put (cs := #[.slice none 0 0, .int .i64 0, .int .u64 0, .int .u64 0, .int .u64 0, .int .u64 0, .bool false]) ?_ 5 _ rfl; (with_reducible repeat (first | refine blk_drewN ?_ _ | refine blk_drew ?_ | refine blk_alloc ?_ _)); refine blk_put (cs := #[.slice none 0 0, .int .i64 0, .int .u64 0, .int .u64 0, .int .u64 0, .int .u64 0, .bool false]) ?_ 4 _ rfl; (with_reducible repeat (first | refine blk_drewN ?_ _ | refine blk_drew ?_ | refine blk_alloc ?_ _)); refine blk_put (cs := #[.slice none 0 0, .int .i64 0, .int .u64 0, .int .u64 0, .int .u64 0, .int .u64 0, .bool false]) ?_ 3 _ rfl; (with_reducible repeat (first | refine blk_drewN ?_ _ | refine blk_drew ?_ | refine blk_alloc ?_ _)); refine blk_put (cs := #[.slice none 0 0, .int .i64 0, .int .u64 0, .int .u64 0, .int .u64 0, .int .u64 0, .bool false]) ?_ 2 _ rfl; (with_reducible repeat (first | refine blk_drewN ?_ _ | refine blk_drew ?_ | refine blk_alloc ?_ _)); refine blk_put (cs := #[.slice none 0 0, .int .i64 0, .int .u64 0, .int .u64 0, .int .u64 0, .int .u64 0, .bool false]) ?_ 1 _ rfl; (with_reducible repeat (first | refine blk_drewN ?_ _ | refine blk_drew ?_ | refine blk_alloc ?_ _)); refine blk_put (cs := #[.slice none 0 0, .int .i64 0, .int .u64 0, .int .u64 0, .int .u64 0, .int .u64 0, .bool false]) ?_ 0 _ rfl; (with_reducible repeat (first | refine blk_drewN ?_ _ | refine blk_drew ?_ | refine blk_alloc ?_ _)); exact BK171.out) Try.underlying27 rfl (by kernel_rfl)) rfl ?_
     exact ⟨_, by first | rfl | (simp [errW_none, errW_some] <;> rfl) | (simp [*, errW_none, errW_some] <;> rfl), by first | exact Kd.R_nil _ _ _ _ _ | exact Kd.N_nil _ _ _ _ _ | exact Kd.V_nil _ _ _ _ _ | exact Kd.Q_nil _ _ _ _ _ | exact Kd.S_nil _ _ _ _ _, by repeat (first | (with_reducible first | exact HB.out | apply below_alloc | apply pw_below_drewN | apply below_drew1 | refine below_set ?_ GE168.out | refine below_set ?_ GE169.out | refine below_set ?_ GE170.out | refine below_set ?_ GE171.out) | exact HB.out)⟩
    ·
     replace c34 := Bool.eq_false_iff.mpr c34
     subst c34
     have H1 : ((ledger_minus.f a1_1 a2_1).bind fun t174 => ((ledger_entry_sum.f l1_0 a1_1 a1_2 a1_3 a1_4 a1_5 a1_6).bind fun bt175 => ((ledger_entry_sum.f l2_0 a2_1 a2_2 a2_3 a2_4 a2_5 a2_6).bind fun bt177 => ((wide_Sub.f bt175.1 bt175.2 bt177.1 bt177.2).bind fun bt179 => ((wide_Sub.f a1_4 a1_5 a2_4 a2_5).bind fun bt181 => (ledger_way_both_f24.l0 kj4 (l1_0.length : Int) 0 l1_0 a1_1 a1_2 a1_3 a1_4 a1_5 a1_6 l2_0 a2_1 a2_2 a2_3 a2_4 a2_5 a2_6 ([] : List Int) t174 bt179.1 bt179.2 bt181.1 bt181.2 false)))))) = some (r1, r2, r3, r4, r5, r6, r7, r8) := by rw [if_neg (show ¬ (false = true) by decide)] at H; exact H
     clear H
     have H := H1
     clear H1
     replace H := Option.bind_eq_some_iff.mp H
     obtain ⟨t174, A390, H⟩ := H
     replace H : ((ledger_entry_sum.f l1_0 a1_1 a1_2 a1_3 a1_4 a1_5 a1_6).bind fun bt175 => ((ledger_entry_sum.f l2_0 a2_1 a2_2 a2_3 a2_4 a2_5 a2_6).bind fun bt177 => ((wide_Sub.f bt175.1 bt175.2 bt177.1 bt177.2).bind fun bt179 => ((wide_Sub.f a1_4 a1_5 a2_4 a2_5).bind fun bt181 => (ledger_way_both_f24.l0 kj4 (l1_0.length : Int) 0 l1_0 a1_1 a1_2 a1_3 a1_4 a1_5 a1_6 l2_0 a2_1 a2_2 a2_3 a2_4 a2_5 a2_6 ([] : List Int) t174 bt179.1 bt179.2 bt181.1 bt181.2 false))))) = some (r1, r2, r3, r4, r5, r6, r7, r8) := H
     have A39 := Aside0.mk A390
     clear A390
     replace H := Option.bind_eq_some_iff.mp H
     obtain ⟨⟨t175, t176⟩, A400, H⟩ := H
     replace H : ((ledger_entry_sum.f l2_0 a2_1 a2_2 a2_3 a2_4 a2_5 a2_6).bind fun bt177 => ((wide_Sub.f t175 t176 bt177.1 bt177.2).bind fun bt179 => ((wide_Sub.f a1_4 a1_5 a2_4 a2_5).bind fun bt181 => (ledger_way_both_f24.l0 kj4 (l1_0.length : Int) 0 l1_0 a1_1 a1_2 a1_3 a1_4 a1_5 a1_6 l2_0 a2_1 a2_2 a2_3 a2_4 a2_5 a2_6 ([] : List Int) t174 bt179.1 bt179.2 bt181.1 bt181.2 false)))) = some (r1, r2, r3, r4, r5, r6, r7, r8) := H
     have A40 := Aside0.mk A400
     clear A400
     replace H := Option.bind_eq_some_iff.mp H
     obtain ⟨⟨t177, t178⟩, A410, H⟩ := H
     replace H : ((wide_Sub.f t175 t176 t177 t178).bind fun bt179 => ((wide_Sub.f a1_4 a1_5 a2_4 a2_5).bind fun bt181 => (ledger_way_both_f24.l0 kj4 (l1_0.length : Int) 0 l1_0 a1_1 a1_2 a1_3 a1_4 a1_5 a1_6 l2_0 a2_1 a2_2 a2_3 a2_4 a2_5 a2_6 ([] : List Int) t174 bt179.1 bt179.2 bt181.1 bt181.2 false))) = some (r1, r2, r3, r4, r5, r6, r7, r8) := H
     have A41 := Aside0.mk A410
     clear A410
     replace H := Option.bind_eq_some_iff.mp H
     obtain ⟨⟨t179, t180⟩, A420, H⟩ := H
     replace H : ((wide_Sub.f a1_4 a1_5 a2_4 a2_5).bind fun bt181 => (ledger_way_both_f24.l0 kj4 (l1_0.length : Int) 0 l1_0 a1_1 a1_2 a1_3 a1_4 a1_5 a1_6 l2_0 a2_1 a2_2 a2_3 a2_4 a2_5 a2_6 ([] : List Int) t174 t179 t180 bt181.1 bt181.2 false)) = some (r1, r2, r3, r4, r5, r6, r7, r8) := H
     have A42 := Aside0.mk A420
     clear A420
     replace H := Option.bind_eq_some_iff.mp H
     obtain ⟨⟨t181, t182⟩, A430, H⟩ := H
     replace H : (ledger_way_both_f24.l0 kj4 (l1_0.length : Int) 0 l1_0 a1_1 a1_2 a1_3 a1_4 a1_5 a1_6 l2_0 a2_1 a2_2 a2_3 a2_4 a2_5 a2_6 ([] : List Int) t174 t179 t180 t181 t182 false) = some (r1, r2, r3, r4, r5, r6, r7, r8) := H
     have A43 := Aside0.mk A430
     clear A430
     have H' := Aside0.mk H
     clear H
     try go_wp2
     have n0_ := Aside0.mk (blk_drew BK168.out)
     have n1_ := Aside0.mk (blk_drew BK169.out)
     have n2_ := Aside0.mk (blk_drew BK170.out)
     have n3_ := Aside0.mk (blk_drew BK171.out)
     have n4_ := Aside0.mk (below_drew1 HB.out)
     clear BK168
     clear BK169
     clear BK170
     clear BK171
     clear HB
     have BK168 := n0_
     have BK169 := n1_
     have BK170 := n2_
     have BK171 := n3_
     have HB := n4_
     clear n0_ n1_ n2_ n3_ n4_
     refine start_ (n := 29) (S := fun w' => True) (ds := []) #[F, F, F, F, F, F, F, F, F, F, F, F, F, F, F, F, F, F, F, F, F, F, F, F, F, F, F, F, F] (by kernel_rfl) rfl rfl trivial (fun hHeld => ?_); refine with_tabW ledger_way_both_f24.tab5 ledger_way_both_f24.bits5 (fun HT_ HW_ => ?_)
     generalize wc.drew = w44 at BK168 BK169 BK170 BK171 HB hHeld ⊢
     refine pure_ (i := 0) (N := some 29) (v := ?_) (a' := ?_) #[T, F, F, F, F, F, F, F, F, F, F, F, F, F, F, F, F, F, F, F, F, F, F, F, F, F, F, F, F] rfl rfl (any_of HT_.out (by kernel_rfl)) (fun _ _ _ h => h) (Or.inl ⟨by rfl, ?_⟩) ?_ ?_
     rotate_left
     ·
      intro w'
      go_simp
      with_reducible rfl
     rotate_left
     ·
      simp only [Act.put, List.setIfInBounds_toArray, List.set_cons_zero, List.set_cons_succ, i64_w, i32_w]
      rfl
     refine pure_ (i := 2) (N := some 31) (v := ?_) (a' := ?_) #[T, F, T, F, F, F, F, F, F, F, F, F, F, F, F, F, F, F, F, F, F, F, F, F, F, F, F, F, F] rfl rfl (any_of HT_.out (by kernel_rfl)) (fun _ _ _ h => h) (Or.inl ⟨by rfl, ?_⟩) ?_ ?_
     rotate_left
     ·
      intro w'
      go_simp
      with_reducible rfl
     rotate_left
     ·
      simp only [Act.put, List.setIfInBounds_toArray, List.set_cons_zero, List.set_cons_succ, i64_w, i32_w]
      rfl
     refine pure_ (i := 3) (N := some 32) (v := ?_) (a' := ?_) #[T, F, T, T, F, F, F, F, F, F, F, F, F, F, F, F, F, F, F, F, F, F, F, F, F, F, F, F, F] rfl rfl (any_of HT_.out (by kernel_rfl)) (fun _ _ _ h => h) (Or.inl ⟨by rfl, ?_⟩) ?_ ?_
     rotate_left
     ·
      intro w'
      go_simp
      with_reducible rfl
     rotate_left
     ·
      simp only [Act.put, List.setIfInBounds_toArray, List.set_cons_zero, List.set_cons_succ, i64_w, i32_w]
      rfl
     refine pure_ (i := 5) (N := some 34) (v := ?_) (a' := ?_) #[T, F, T, T, F, T, F, F, F, F, F, F, F, F, F, F, F, F, F, F, F, F, F, F, F, F, F, F, F] rfl rfl (any_of HT_.out (by kernel_rfl)) (fun _ _ _ h => h) (Or.inl ⟨by rfl, ?_⟩) ?_ ?_
     rotate_left
     ·
      intro w'
      go_simp
      with_reducible rfl
     rotate_left
     ·
      simp only [Act.put, List.setIfInBounds_toArray, List.set_cons_zero, List.set_cons_succ, i64_w, i32_w]
      rfl
     refine pure_ (i := 6) (N := some 35) (v := ?_) (a' := ?_) #[T, F, T, T, F, T, T, F, F, F, F, F, F, F, F, F, F, F, F, F, F, F, F, F, F, F, F, F, F] rfl rfl (any_of HT_.out (by kernel_rfl)) (fun _ _ _ h => h) (Or.inl ⟨by rfl, ?_⟩) ?_ ?_
     rotate_left
     ·
      intro w'
      go_simp
      with_reducible rfl
     rotate_left
     ·
      simp only [Act.put, List.setIfInBounds_toArray, List.set_cons_zero, List.set_cons_succ, i64_w, i32_w]
      rfl
     refine pure_ (i := 9) (N := some 38) (v := ?_) (a' := ?_) #[T, F, T, T, F, T, T, F, F, T, F, F, F, F, F, F, F, F, F, F, F, F, F, F, F, F, F, F, F] rfl rfl (any_of HT_.out (by kernel_rfl)) (fun _ _ _ h => h) (Or.inl ⟨by rfl, ?_⟩) ?_ ?_
     rotate_left
     ·
      intro w'
      go_simp
      with_reducible rfl
     rotate_left
     ·
      simp only [Act.put, List.setIfInBounds_toArray, List.set_cons_zero, List.set_cons_succ, i64_w, i32_w]
      rfl
     refine pure_ (i := 16) (N := some 45) (v := ?_) (a' := ?_) #[T, F, T, T, F, T, T, F, F, T, F, F, F, F, F, F, T, F, F, F, F, F, F, F, F, F, F, F, F] rfl rfl (any_of HT_.out (by kernel_rfl)) (fun _ _ _ h => h) (Or.inl ⟨by rfl, ?_⟩) ?_ ?_
     rotate_left
     ·
      intro w'
      go_simp
      with_reducible rfl
     rotate_left
     ·
      simp only [Act.put, List.setIfInBounds_toArray, List.set_cons_zero, List.set_cons_succ, i64_w, i32_w]
      rfl
     refine pure_ (i := 18) (N := some 47) (v := ?_) (a' := ?_) #[T, F, T, T, F, T, T, F, F, T, F, F, F, F, F, F, T, F, T, F, F, F, F, F, F, F, F, F, F] rfl rfl (any_of HT_.out (by kernel_rfl)) (fun _ _ _ h => h) (Or.inl ⟨by rfl, ?_⟩) ?_ ?_
     rotate_left
     ·
      intro w'
      go_simp
      with_reducible rfl
     rotate_left
     ·
      simp only [Act.put, List.setIfInBounds_toArray, List.set_cons_zero, List.set_cons_succ, i64_w, i32_w]
      rfl
     refine pure_ (i := 19) (N := some 48) (v := ?_) (a' := ?_) #[T, F, T, T, F, T, T, F, F, T, F, F, F, F, F, F, T, F, T, T, F, F, F, F, F, F, F, F, F] rfl rfl (any_of HT_.out (by kernel_rfl)) (fun _ _ _ h => h) (Or.inl ⟨by rfl, ?_⟩) ?_ ?_
     rotate_left
     ·
      intro w'
      go_simp
      with_reducible rfl
     rotate_left
     ·
      simp only [Act.put, List.setIfInBounds_toArray, List.set_cons_zero, List.set_cons_succ, i64_w, i32_w]
      rfl
     refine pure_ (i := 21) (N := some 50) (v := ?_) (a' := ?_) #[T, F, T, T, F, T, T, F, F, T, F, F, F, F, F, F, T, F, T, T, F, T, F, F, F, F, F, F, F] rfl rfl (any_of HT_.out (by kernel_rfl)) (fun _ _ _ h => h) (Or.inl ⟨by rfl, ?_⟩) ?_ ?_
     rotate_left
     ·
      intro w'
      go_simp
      with_reducible rfl
     rotate_left
     ·
      simp only [Act.put, List.setIfInBounds_toArray, List.set_cons_zero, List.set_cons_succ, i64_w, i32_w]
      rfl
     refine pure_ (i := 22) (N := some 51) (v := ?_) (a' := ?_) #[T, F, T, T, F, T, T, F, F, T, F, F, F, F, F, F, T, F, T, T, F, T, T, F, F, F, F, F, F] rfl rfl (any_of HT_.out (by kernel_rfl)) (fun _ _ _ h => h) (Or.inl ⟨by rfl, ?_⟩) ?_ ?_
     rotate_left
     ·
      intro w'
      go_simp
      with_reducible rfl
     rotate_left
     ·
      simp only [Act.put, List.setIfInBounds_toArray, List.set_cons_zero, List.set_cons_succ, i64_w, i32_w]
      rfl
     refine inv_at [1, 4, 7, 8, 10, 11, 12, 13, 14, 15, 17, 20, 23, 24, 25, 26, 27, 28] (fun a0_ b a w' => ∃ (gb183 : Nat) (m27_ : Value), a = putSel a0_ b [(1, 30, .func (.func 24) #[] #[]), (4, 33, .int .i64 a1_1), (7, 36, .int .i64 a2_1), (8, 37, .int .i64 t174), (10, 39, .func (.func 25) #[] #[]), (11, 40, .agg #[.slice A1_0 l1_0.length c1_0, .int .i64 a1_1, .int .u64 a1_2, .int .u64 a1_3, .int .u64 a1_4, .int .u64 a1_5, .bool a1_6]), (12, 41, .agg #[.int .u64 t175, .int .u64 t176]), (13, 42, .agg #[.slice A2_0 l2_0.length c2_0, .int .i64 a2_1, .int .u64 a2_2, .int .u64 a2_3, .int .u64 a2_4, .int .u64 a2_5, .bool a2_6]), (14, 43, .agg #[.int .u64 t177, .int .u64 t178]), (15, 44, .agg #[.int .u64 t179, .int .u64 t180]), (17, 46, .func (.func 25) #[] #[]), (20, 49, .agg #[.int .u64 a1_4, .int .u64 a1_5]), (23, 52, .agg #[.int .u64 a2_4, .int .u64 a2_5]), (24, 53, .agg #[.int .u64 t181, .int .u64 t182]), (25, 54, .agg #[.slice none 0 0, .int .i64 t174, .int .u64 t179, .int .u64 t180, .int .u64 t181, .int .u64 t182, .bool false]), (26, 55, .agg #[.slice none 0 0, .int .i64 t174, .int .u64 t179, .int .u64 t180, .int .u64 t181, .int .u64 t182, .bool false]), (27, 8, m27_)] ∧ (w'.heap[gb168]? = some (.cells #[.func (.func 24) #[] #[], .func (.func 25) #[] #[]] 45 (0, 0))) ∧ (w'.heap[gb169]? = some (.cells #[.slice A1_0 l1_0.length c1_0, .int .i64 a1_1, .int .u64 a1_2, .int .u64 a1_3, .int .u64 a1_4, .int .u64 a1_5, .bool a1_6] 48 (0, 0))) ∧ (w'.heap[gb170]? = some (.cells #[.slice A2_0 l2_0.length c2_0, .int .i64 a2_1, .int .u64 a2_2, .int .u64 a2_3, .int .u64 a2_4, .int .u64 a2_5, .bool a2_6] 48 (0, 0))) ∧ (w'.heap[gb171]? = some (.cells #[.slice none 0 0, .int .i64 0, .int .u64 0, .int .u64 0, .int .u64 0, .int .u64 0, .bool false] 27 (0, 0))) ∧ (Below w.heap.size w w') ∧ (b 27 = true → b 28 = false → w'.heap[gb183]? = some (.cells #[.slice none 0 0, .int .i64 0, .int .u64 0, .int .u64 0, .int .u64 0, .int .u64 0, .bool false] 48 (0, 0))) ∧ (b 27 = true → w.heap.size ≤ gb183) ∧ (b 27 = true → w.heap.size ≤ gb183) ∧ (b 27 = true → gb168 ≠ gb183) ∧ (b 27 = true → gb183 ≠ gb168) ∧ (b 27 = true → gb169 ≠ gb183) ∧ (b 27 = true → gb183 ≠ gb169) ∧ (b 27 = true → gb170 ≠ gb183) ∧ (b 27 = true → gb183 ≠ gb170) ∧ (b 27 = true → gb171 ≠ gb183) ∧ (b 27 = true → gb183 ≠ gb171) ∧ (b 28 = true → w'.heap[gb183]? = some (.cells #[.slice none 0 0, .int .i64 t174, .int .u64 t179, .int .u64 t180, .int .u64 t181, .int .u64 t182, .bool false] 48 (0, 0))) ∧ (b 27 = true → (m27_ : Value) = .pointer (some ⟨gb183, 0, none⟩))) HT_.out HW_.out (by kernel_rfl) (by kernel_rfl) ?_ ?_ ?_
     ·
      exact ⟨0, .bool false, by simp only [putSel, Bool.false_eq_true, if_false], BK168.out, BK169.out, BK170.out, BK171.out, HB.out, fun h_ => absurd h_ (by decide), fun h_ => absurd h_ (by decide), fun h_ => absurd h_ (by decide), fun h_ => absurd h_ (by decide), fun h_ => absurd h_ (by decide), fun h_ => absurd h_ (by decide), fun h_ => absurd h_ (by decide), fun h_ => absurd h_ (by decide), fun h_ => absurd h_ (by decide), fun h_ => absurd h_ (by decide), fun h_ => absurd h_ (by decide), fun h_ => absurd h_ (by decide), fun h_ => absurd h_ (by decide)⟩
     ·
      skip
      clear BK168 BK169 BK170 BK171 HB
      refine steps_cons ?_ ?_
      ·
       rintro b a w' ⟨gb183, m27_, ha, Q_BK168, Q_BK169, Q_BK170, Q_BK171, Q_HB, Q_BK183, Q_GW183, Q_GE183, Q_NB168_183, Q_NB183_168, Q_NB169_183, Q_NB183_169, Q_NB170_183, Q_NB183_170, Q_NB171_183, Q_NB183_171, Q_BK183_e28, Q_X27_⟩ hb_ hon hoff
       refine ⟨_, rfl, fun K hK => ?_⟩
       have e29 : a.tmps[29]? = some (.pointer (some ⟨gb168, 0, none⟩)) := by rw [ha]; exact (putSel_off rfl).trans rfl
       replace ha := Aside0.mk ha
       have BK168 := Aside0.mk Q_BK168
       have BK169 := Aside0.mk Q_BK169
       have BK170 := Aside0.mk Q_BK170
       have BK171 := Aside0.mk Q_BK171
       have HB := Aside0.mk Q_HB
       have hc0_ : w'.cell? ⟨gb168, 0, none⟩ = some (.func (.func 24) #[] #[]) := (blk_cell BK168.out 0).trans rfl
       have hc1_ : w'.cell? ⟨gb168, 1, none⟩ = some (.func (.func 25) #[] #[]) := (blk_cell BK168.out 1).trans rfl
       refine value_ (w1 := w') (v := .func (.func 24) #[] #[]) (by rfl) rfl ?_ ?_
       ·
        go_simp
        (try simp only [i64_w])
        try rfl
       refine hK.out _ _ ⟨gb183, m27_, (by rw [ha.out]; exact putSel_upk 0 hb_ rfl rfl rfl), Q_BK168, Q_BK169, Q_BK170, Q_BK171, Q_HB, Q_BK183, Q_GW183, Q_GE183, Q_NB168_183, Q_NB183_168, Q_NB169_183, Q_NB183_169, Q_NB170_183, Q_NB183_170, Q_NB171_183, Q_NB183_171, fun h0_ => absurd ((hoff 28 (by kernel_rfl)).symm.trans h0_) (by decide), Q_X27_⟩
      refine steps_cons ?_ ?_
      ·
       rintro b a w' ⟨gb183, m27_, ha, Q_BK168, Q_BK169, Q_BK170, Q_BK171, Q_HB, Q_BK183, Q_GW183, Q_GE183, Q_NB168_183, Q_NB183_168, Q_NB169_183, Q_NB183_169, Q_NB170_183, Q_NB183_170, Q_NB171_183, Q_NB183_171, Q_BK183_e28, Q_X27_⟩ hb_ hon hoff
       refine ⟨_, rfl, fun K hK => ?_⟩
       have e32 : a.tmps[32]? = some (.pointer (some ⟨gb169, 1, none⟩)) := by rw [ha]; exact (putSel_off rfl).trans rfl
       replace ha := Aside0.mk ha
       have BK168 := Aside0.mk Q_BK168
       have BK169 := Aside0.mk Q_BK169
       have BK170 := Aside0.mk Q_BK170
       have BK171 := Aside0.mk Q_BK171
       have HB := Aside0.mk Q_HB
       have hc0_ : w'.cell? ⟨gb169, 0, none⟩ = some (.slice A1_0 l1_0.length c1_0) := (blk_cell BK169.out 0).trans rfl
       have hc1_ : w'.cell? ⟨gb169, 1, none⟩ = some (.int .i64 a1_1) := (blk_cell BK169.out 1).trans rfl
       have hc2_ : w'.cell? ⟨gb169, 2, none⟩ = some (.int .u64 a1_2) := (blk_cell BK169.out 2).trans rfl
       have hc3_ : w'.cell? ⟨gb169, 3, none⟩ = some (.int .u64 a1_3) := (blk_cell BK169.out 3).trans rfl
       have hc4_ : w'.cell? ⟨gb169, 4, none⟩ = some (.int .u64 a1_4) := (blk_cell BK169.out 4).trans rfl
       have hc5_ : w'.cell? ⟨gb169, 5, none⟩ = some (.int .u64 a1_5) := (blk_cell BK169.out 5).trans rfl
       have hc6_ : w'.cell? ⟨gb169, 6, none⟩ = some (.bool a1_6) := (blk_cell BK169.out 6).trans rfl
       refine value_ (w1 := w') (v := .int .i64 a1_1) (by rfl) rfl ?_ ?_
       ·
        go_simp
        (try simp only [i64_w])
        try rfl
       refine hK.out _ _ ⟨gb183, m27_, (by rw [ha.out]; exact putSel_upk 1 hb_ rfl rfl rfl), Q_BK168, Q_BK169, Q_BK170, Q_BK171, Q_HB, Q_BK183, Q_GW183, Q_GE183, Q_NB168_183, Q_NB183_168, Q_NB169_183, Q_NB183_169, Q_NB170_183, Q_NB183_170, Q_NB171_183, Q_NB183_171, fun h0_ => absurd ((hoff 28 (by kernel_rfl)).symm.trans h0_) (by decide), Q_X27_⟩
      refine steps_cons ?_ ?_
      ·
       rintro b a w' ⟨gb183, m27_, ha, Q_BK168, Q_BK169, Q_BK170, Q_BK171, Q_HB, Q_BK183, Q_GW183, Q_GE183, Q_NB168_183, Q_NB183_168, Q_NB169_183, Q_NB183_169, Q_NB170_183, Q_NB183_170, Q_NB171_183, Q_NB183_171, Q_BK183_e28, Q_X27_⟩ hb_ hon hoff
       refine ⟨_, rfl, fun K hK => ?_⟩
       have e35 : a.tmps[35]? = some (.pointer (some ⟨gb170, 1, none⟩)) := by rw [ha]; exact (putSel_off rfl).trans rfl
       replace ha := Aside0.mk ha
       have BK168 := Aside0.mk Q_BK168
       have BK169 := Aside0.mk Q_BK169
       have BK170 := Aside0.mk Q_BK170
       have BK171 := Aside0.mk Q_BK171
       have HB := Aside0.mk Q_HB
       have hc0_ : w'.cell? ⟨gb170, 0, none⟩ = some (.slice A2_0 l2_0.length c2_0) := (blk_cell BK170.out 0).trans rfl
       have hc1_ : w'.cell? ⟨gb170, 1, none⟩ = some (.int .i64 a2_1) := (blk_cell BK170.out 1).trans rfl
       have hc2_ : w'.cell? ⟨gb170, 2, none⟩ = some (.int .u64 a2_2) := (blk_cell BK170.out 2).trans rfl
       have hc3_ : w'.cell? ⟨gb170, 3, none⟩ = some (.int .u64 a2_3) := (blk_cell BK170.out 3).trans rfl
       have hc4_ : w'.cell? ⟨gb170, 4, none⟩ = some (.int .u64 a2_4) := (blk_cell BK170.out 4).trans rfl
       have hc5_ : w'.cell? ⟨gb170, 5, none⟩ = some (.int .u64 a2_5) := (blk_cell BK170.out 5).trans rfl
       have hc6_ : w'.cell? ⟨gb170, 6, none⟩ = some (.bool a2_6) := (blk_cell BK170.out 6).trans rfl
       refine value_ (w1 := w') (v := .int .i64 a2_1) (by rfl) rfl ?_ ?_
       ·
        go_simp
        (try simp only [i64_w])
        try rfl
       refine hK.out _ _ ⟨gb183, m27_, (by rw [ha.out]; exact putSel_upk 2 hb_ rfl rfl rfl), Q_BK168, Q_BK169, Q_BK170, Q_BK171, Q_HB, Q_BK183, Q_GW183, Q_GE183, Q_NB168_183, Q_NB183_168, Q_NB169_183, Q_NB183_169, Q_NB170_183, Q_NB183_170, Q_NB171_183, Q_NB183_171, fun h0_ => absurd ((hoff 28 (by kernel_rfl)).symm.trans h0_) (by decide), Q_X27_⟩
      refine steps_cons ?_ ?_
      ·
       rintro b a w' ⟨gb183, m27_, ha, Q_BK168, Q_BK169, Q_BK170, Q_BK171, Q_HB, Q_BK183, Q_GW183, Q_GE183, Q_NB168_183, Q_NB183_168, Q_NB169_183, Q_NB183_169, Q_NB170_183, Q_NB183_170, Q_NB171_183, Q_NB183_171, Q_BK183_e28, Q_X27_⟩ hb_ hon hoff
       refine ⟨_, rfl, fun K hK => ?_⟩
       have e30 : a.tmps[30]? = some (.func (.func 24) #[] #[]) := by rw [ha]; exact putSel_on (e := (1, 30, .func (.func 24) #[] #[])) 0 rfl rfl (hon 1 (by kernel_rfl)) rfl
       have e33 : a.tmps[33]? = some (.int .i64 a1_1) := by rw [ha]; exact putSel_on (e := (4, 33, .int .i64 a1_1)) 1 rfl rfl (hon 4 (by kernel_rfl)) rfl
       have e36 : a.tmps[36]? = some (.int .i64 a2_1) := by rw [ha]; exact putSel_on (e := (7, 36, .int .i64 a2_1)) 2 rfl rfl (hon 7 (by kernel_rfl)) rfl
       replace ha := Aside0.mk ha
       have BK168 := Aside0.mk Q_BK168
       have BK169 := Aside0.mk Q_BK169
       have BK170 := Aside0.mk Q_BK170
       have BK171 := Aside0.mk Q_BK171
       have HB := Aside0.mk Q_HB
       refine goesT_ Try.func24 (by kernel_rfl) rfl #[.int .i64 a1_1, .int .i64 a2_1] (by rfl) rfl rfl (by first | rfl | (go_simp; done)) (by first | (simp only [List.map_toArray, List.map_cons, List.map_nil, Act.eval, Array.getD_eq_getD_getElem?, Option.getD_some, e30, e33, e36]; done) | (simp only [List.map_toArray, List.map_cons, List.map_nil, Act.eval, Array.getD_eq_getD_getElem?, Option.getD_some, e30, e33, e36]; rfl)) ?_
       with_reducible refine (ledger_minus.calls a1_1 a2_1 t174 _ A39.out).mono ?_
       rintro e w45 ⟨rfl, hb⟩
       refine ⟨_, rfl, ?_⟩
       have n0_ := ledger_way_both_f24.keepB BK168 hb
       have n1_ := ledger_way_both_f24.keepB BK169 hb
       have n2_ := ledger_way_both_f24.keepB BK170 hb
       have n3_ := ledger_way_both_f24.keepB BK171 hb
       have n4_ := Aside0.mk (below_step (by repeat (first | (with_reducible first | exact HB.out | apply below_alloc | apply pw_below_drewN | apply below_drew1 | refine below_set ?_ GE168.out | refine below_set ?_ GE169.out | refine below_set ?_ GE170.out | refine below_set ?_ GE171.out) | exact HB.out)) hb)
       have z_BK183 := fun (h0_ : b 27 = true) (h1_ : b 28 = false) => (show w45.heap[gb183]? = some (.cells #[.slice none 0 0, .int .i64 0, .int .u64 0, .int .u64 0, .int .u64 0, .int .u64 0, .bool false] 48 (0, 0)) from by first | exact (blk_below (g := gb183) (o := .cells #[.slice none 0 0, .int .i64 0, .int .u64 0, .int .u64 0, .int .u64 0, .int .u64 0, .bool false] 48 (0, 0)) (by (with_reducible repeat (first | refine blk_drewN ?_ _ | refine blk_drew ?_ | refine blk_alloc ?_ _)); exact (Q_BK183 h0_ h1_)) hb))
       clear BK168
       clear BK169
       clear BK170
       clear BK171
       clear HB
       have BK168 := n0_
       have BK169 := n1_
       have BK170 := n2_
       have BK171 := n3_
       have HB := n4_
       clear n0_ n1_ n2_ n3_ n4_
       (try clear hb)
       (try clear hb2)
       (try clear hk)
       (try clear hi)
       refine hK.out _ _ ⟨gb183, m27_, (by rw [ha.out]; exact putSel_upk 3 hb_ rfl rfl rfl), (by (with_reducible repeat (first | refine blk_drewN ?_ _ | refine blk_drew ?_ | refine blk_alloc ?_ _)); exact BK168.out), (by (with_reducible repeat (first | refine blk_drewN ?_ _ | refine blk_drew ?_ | refine blk_alloc ?_ _)); exact BK169.out), (by (with_reducible repeat (first | refine blk_drewN ?_ _ | refine blk_drew ?_ | refine blk_alloc ?_ _)); exact BK170.out), (by (with_reducible repeat (first | refine blk_drewN ?_ _ | refine blk_drew ?_ | refine blk_alloc ?_ _)); exact BK171.out), (by repeat (first | (with_reducible first | exact HB.out | apply below_alloc | apply pw_below_drewN | apply below_drew1 | refine below_set ?_ GE168.out | refine below_set ?_ GE169.out | refine below_set ?_ GE170.out | refine below_set ?_ GE171.out) | exact HB.out)), z_BK183, Q_GW183, Q_GE183, Q_NB168_183, Q_NB183_168, Q_NB169_183, Q_NB183_169, Q_NB170_183, Q_NB183_170, Q_NB171_183, Q_NB183_171, fun h0_ => absurd ((hoff 28 (by kernel_rfl)).symm.trans h0_) (by decide), Q_X27_⟩
      refine steps_cons ?_ ?_
      ·
       rintro b a w' ⟨gb183, m27_, ha, Q_BK168, Q_BK169, Q_BK170, Q_BK171, Q_HB, Q_BK183, Q_GW183, Q_GE183, Q_NB168_183, Q_NB183_168, Q_NB169_183, Q_NB183_169, Q_NB170_183, Q_NB183_170, Q_NB171_183, Q_NB183_171, Q_BK183_e28, Q_X27_⟩ hb_ hon hoff
       refine ⟨_, rfl, fun K hK => ?_⟩
       have e38 : a.tmps[38]? = some (.pointer (some ⟨gb168, 1, none⟩)) := by rw [ha]; exact (putSel_off rfl).trans rfl
       replace ha := Aside0.mk ha
       have BK168 := Aside0.mk Q_BK168
       have BK169 := Aside0.mk Q_BK169
       have BK170 := Aside0.mk Q_BK170
       have BK171 := Aside0.mk Q_BK171
       have HB := Aside0.mk Q_HB
       have hc0_ : w'.cell? ⟨gb168, 0, none⟩ = some (.func (.func 24) #[] #[]) := (blk_cell BK168.out 0).trans rfl
       have hc1_ : w'.cell? ⟨gb168, 1, none⟩ = some (.func (.func 25) #[] #[]) := (blk_cell BK168.out 1).trans rfl
       refine value_ (w1 := w') (v := .func (.func 25) #[] #[]) (by rfl) rfl ?_ ?_
       ·
        go_simp
        (try simp only [i64_w])
        try rfl
       refine hK.out _ _ ⟨gb183, m27_, (by rw [ha.out]; exact putSel_upk 4 hb_ rfl rfl rfl), Q_BK168, Q_BK169, Q_BK170, Q_BK171, Q_HB, Q_BK183, Q_GW183, Q_GE183, Q_NB168_183, Q_NB183_168, Q_NB169_183, Q_NB183_169, Q_NB170_183, Q_NB183_170, Q_NB171_183, Q_NB183_171, fun h0_ => absurd ((hoff 28 (by kernel_rfl)).symm.trans h0_) (by decide), Q_X27_⟩
      refine steps_cons ?_ ?_
      ·
       rintro b a w' ⟨gb183, m27_, ha, Q_BK168, Q_BK169, Q_BK170, Q_BK171, Q_HB, Q_BK183, Q_GW183, Q_GE183, Q_NB168_183, Q_NB183_168, Q_NB169_183, Q_NB183_169, Q_NB170_183, Q_NB183_170, Q_NB171_183, Q_NB183_171, Q_BK183_e28, Q_X27_⟩ hb_ hon hoff
       refine ⟨_, rfl, fun K hK => ?_⟩
       have e4 : a.tmps[4]? = some (.pointer (some ⟨gb169, 0, none⟩)) := by rw [ha]; exact (putSel_off rfl).trans rfl
       replace ha := Aside0.mk ha
       have BK168 := Aside0.mk Q_BK168
       have BK169 := Aside0.mk Q_BK169
       have BK170 := Aside0.mk Q_BK170
       have BK171 := Aside0.mk Q_BK171
       have HB := Aside0.mk Q_HB
       have hc0_ : w'.cell? ⟨gb169, 0, none⟩ = some (.slice A1_0 l1_0.length c1_0) := (blk_cell BK169.out 0).trans rfl
       have hc1_ : w'.cell? ⟨gb169, 1, none⟩ = some (.int .i64 a1_1) := (blk_cell BK169.out 1).trans rfl
       have hc2_ : w'.cell? ⟨gb169, 2, none⟩ = some (.int .u64 a1_2) := (blk_cell BK169.out 2).trans rfl
       have hc3_ : w'.cell? ⟨gb169, 3, none⟩ = some (.int .u64 a1_3) := (blk_cell BK169.out 3).trans rfl
       have hc4_ : w'.cell? ⟨gb169, 4, none⟩ = some (.int .u64 a1_4) := (blk_cell BK169.out 4).trans rfl
       have hc5_ : w'.cell? ⟨gb169, 5, none⟩ = some (.int .u64 a1_5) := (blk_cell BK169.out 5).trans rfl
       have hc6_ : w'.cell? ⟨gb169, 6, none⟩ = some (.bool a1_6) := (blk_cell BK169.out 6).trans rfl
       refine value_ (w1 := w') (v := .agg #[.slice A1_0 l1_0.length c1_0, .int .i64 a1_1, .int .u64 a1_2, .int .u64 a1_3, .int .u64 a1_4, .int .u64 a1_5, .bool a1_6]) (by rfl) rfl ?_ ?_
       ·
        go_simp
        (try simp only [i64_w])
        try rfl
       refine hK.out _ _ ⟨gb183, m27_, (by rw [ha.out]; exact putSel_upk 5 hb_ rfl rfl rfl), Q_BK168, Q_BK169, Q_BK170, Q_BK171, Q_HB, Q_BK183, Q_GW183, Q_GE183, Q_NB168_183, Q_NB183_168, Q_NB169_183, Q_NB183_169, Q_NB170_183, Q_NB183_170, Q_NB171_183, Q_NB183_171, fun h0_ => absurd ((hoff 28 (by kernel_rfl)).symm.trans h0_) (by decide), Q_X27_⟩
      refine steps_cons ?_ ?_
      ·
       rintro b a w' ⟨gb183, m27_, ha, Q_BK168, Q_BK169, Q_BK170, Q_BK171, Q_HB, Q_BK183, Q_GW183, Q_GE183, Q_NB168_183, Q_NB183_168, Q_NB169_183, Q_NB183_169, Q_NB170_183, Q_NB183_170, Q_NB171_183, Q_NB183_171, Q_BK183_e28, Q_X27_⟩ hb_ hon hoff
       refine ⟨_, rfl, fun K hK => ?_⟩
       have e40 : a.tmps[40]? = some (.agg #[.slice A1_0 l1_0.length c1_0, .int .i64 a1_1, .int .u64 a1_2, .int .u64 a1_3, .int .u64 a1_4, .int .u64 a1_5, .bool a1_6]) := by rw [ha]; exact putSel_on (e := (11, 40, .agg #[.slice A1_0 l1_0.length c1_0, .int .i64 a1_1, .int .u64 a1_2, .int .u64 a1_3, .int .u64 a1_4, .int .u64 a1_5, .bool a1_6])) 5 rfl rfl (hon 11 (by kernel_rfl)) rfl
       replace ha := Aside0.mk ha
       have BK168 := Aside0.mk Q_BK168
       have BK169 := Aside0.mk Q_BK169
       have BK170 := Aside0.mk Q_BK170
       have BK171 := Aside0.mk Q_BK171
       have HB := Aside0.mk Q_HB
       refine goes_ Try.func32 (by kernel_rfl) rfl #[.agg #[.slice A1_0 l1_0.length c1_0, .int .i64 a1_1, .int .u64 a1_2, .int .u64 a1_3, .int .u64 a1_4, .int .u64 a1_5, .bool a1_6]] (by rfl) rfl rfl (by first | (simp only [List.map_toArray, List.map_cons, List.map_nil, Act.eval, Array.getD_eq_getD_getElem?, Option.getD_some, e40]; done) | (simp only [List.map_toArray, List.map_cons, List.map_nil, Act.eval, Array.getD_eq_getD_getElem?, Option.getD_some, e40]; rfl)) ?_
       with_reducible refine (ledger_entry_sum.calls _ _ l1_0 a1_1 a1_2 a1_3 a1_4 a1_5 a1_6 t175 t176 _ ?side1 ?side2 A40.out).mono ?_
       (case side1 => repeat (first | exact (Kd.C_below HR1_0.out HB.out) | (with_reducible refine Kd.C_alloc ?_ _) | (with_reducible refine Kd.C_drewN ?_ _) | (with_reducible refine Kd.C_drew ?_)))
       (case side2 => exact HC1_0.out)
       rintro e w47 ⟨rfl, hb⟩
       refine ⟨_, rfl, ?_⟩
       have n0_ := ledger_way_both_f24.keepB BK168 hb
       have n1_ := ledger_way_both_f24.keepB BK169 hb
       have n2_ := ledger_way_both_f24.keepB BK170 hb
       have n3_ := ledger_way_both_f24.keepB BK171 hb
       have n4_ := Aside0.mk (below_step (by repeat (first | (with_reducible first | exact HB.out | apply below_alloc | apply pw_below_drewN | apply below_drew1 | refine below_set ?_ GE168.out | refine below_set ?_ GE169.out | refine below_set ?_ GE170.out | refine below_set ?_ GE171.out) | exact HB.out)) hb)
       have z_BK183 := fun (h0_ : b 27 = true) (h1_ : b 28 = false) => (show w47.heap[gb183]? = some (.cells #[.slice none 0 0, .int .i64 0, .int .u64 0, .int .u64 0, .int .u64 0, .int .u64 0, .bool false] 48 (0, 0)) from by first | exact (blk_below (g := gb183) (o := .cells #[.slice none 0 0, .int .i64 0, .int .u64 0, .int .u64 0, .int .u64 0, .int .u64 0, .bool false] 48 (0, 0)) (by (with_reducible repeat (first | refine blk_drewN ?_ _ | refine blk_drew ?_ | refine blk_alloc ?_ _)); exact (Q_BK183 h0_ h1_)) hb))
       clear BK168
       clear BK169
       clear BK170
       clear BK171
       clear HB
       have BK168 := n0_
       have BK169 := n1_
       have BK170 := n2_
       have BK171 := n3_
       have HB := n4_
       clear n0_ n1_ n2_ n3_ n4_
       (try clear hb)
       (try clear hb2)
       (try clear hk)
       (try clear hi)
       refine hK.out _ _ ⟨gb183, m27_, (by rw [ha.out]; exact putSel_upk 6 hb_ rfl rfl rfl), (by (with_reducible repeat (first | refine blk_drewN ?_ _ | refine blk_drew ?_ | refine blk_alloc ?_ _)); exact BK168.out), (by (with_reducible repeat (first | refine blk_drewN ?_ _ | refine blk_drew ?_ | refine blk_alloc ?_ _)); exact BK169.out), (by (with_reducible repeat (first | refine blk_drewN ?_ _ | refine blk_drew ?_ | refine blk_alloc ?_ _)); exact BK170.out), (by (with_reducible repeat (first | refine blk_drewN ?_ _ | refine blk_drew ?_ | refine blk_alloc ?_ _)); exact BK171.out), (by repeat (first | (with_reducible first | exact HB.out | apply below_alloc | apply pw_below_drewN | apply below_drew1 | refine below_set ?_ GE168.out | refine below_set ?_ GE169.out | refine below_set ?_ GE170.out | refine below_set ?_ GE171.out) | exact HB.out)), z_BK183, Q_GW183, Q_GE183, Q_NB168_183, Q_NB183_168, Q_NB169_183, Q_NB183_169, Q_NB170_183, Q_NB183_170, Q_NB171_183, Q_NB183_171, fun h0_ => absurd ((hoff 28 (by kernel_rfl)).symm.trans h0_) (by decide), Q_X27_⟩
      refine steps_cons ?_ ?_
      ·
       rintro b a w' ⟨gb183, m27_, ha, Q_BK168, Q_BK169, Q_BK170, Q_BK171, Q_HB, Q_BK183, Q_GW183, Q_GE183, Q_NB168_183, Q_NB183_168, Q_NB169_183, Q_NB183_169, Q_NB170_183, Q_NB183_170, Q_NB171_183, Q_NB183_171, Q_BK183_e28, Q_X27_⟩ hb_ hon hoff
       refine ⟨_, rfl, fun K hK => ?_⟩
       have e5 : a.tmps[5]? = some (.pointer (some ⟨gb170, 0, none⟩)) := by rw [ha]; exact (putSel_off rfl).trans rfl
       replace ha := Aside0.mk ha
       have BK168 := Aside0.mk Q_BK168
       have BK169 := Aside0.mk Q_BK169
       have BK170 := Aside0.mk Q_BK170
       have BK171 := Aside0.mk Q_BK171
       have HB := Aside0.mk Q_HB
       have hc0_ : w'.cell? ⟨gb170, 0, none⟩ = some (.slice A2_0 l2_0.length c2_0) := (blk_cell BK170.out 0).trans rfl
       have hc1_ : w'.cell? ⟨gb170, 1, none⟩ = some (.int .i64 a2_1) := (blk_cell BK170.out 1).trans rfl
       have hc2_ : w'.cell? ⟨gb170, 2, none⟩ = some (.int .u64 a2_2) := (blk_cell BK170.out 2).trans rfl
       have hc3_ : w'.cell? ⟨gb170, 3, none⟩ = some (.int .u64 a2_3) := (blk_cell BK170.out 3).trans rfl
       have hc4_ : w'.cell? ⟨gb170, 4, none⟩ = some (.int .u64 a2_4) := (blk_cell BK170.out 4).trans rfl
       have hc5_ : w'.cell? ⟨gb170, 5, none⟩ = some (.int .u64 a2_5) := (blk_cell BK170.out 5).trans rfl
       have hc6_ : w'.cell? ⟨gb170, 6, none⟩ = some (.bool a2_6) := (blk_cell BK170.out 6).trans rfl
       refine value_ (w1 := w') (v := .agg #[.slice A2_0 l2_0.length c2_0, .int .i64 a2_1, .int .u64 a2_2, .int .u64 a2_3, .int .u64 a2_4, .int .u64 a2_5, .bool a2_6]) (by rfl) rfl ?_ ?_
       ·
        go_simp
        (try simp only [i64_w])
        try rfl
       refine hK.out _ _ ⟨gb183, m27_, (by rw [ha.out]; exact putSel_upk 7 hb_ rfl rfl rfl), Q_BK168, Q_BK169, Q_BK170, Q_BK171, Q_HB, Q_BK183, Q_GW183, Q_GE183, Q_NB168_183, Q_NB183_168, Q_NB169_183, Q_NB183_169, Q_NB170_183, Q_NB183_170, Q_NB171_183, Q_NB183_171, fun h0_ => absurd ((hoff 28 (by kernel_rfl)).symm.trans h0_) (by decide), Q_X27_⟩
      refine steps_cons ?_ ?_
      ·
       rintro b a w' ⟨gb183, m27_, ha, Q_BK168, Q_BK169, Q_BK170, Q_BK171, Q_HB, Q_BK183, Q_GW183, Q_GE183, Q_NB168_183, Q_NB183_168, Q_NB169_183, Q_NB183_169, Q_NB170_183, Q_NB183_170, Q_NB171_183, Q_NB183_171, Q_BK183_e28, Q_X27_⟩ hb_ hon hoff
       refine ⟨_, rfl, fun K hK => ?_⟩
       have e42 : a.tmps[42]? = some (.agg #[.slice A2_0 l2_0.length c2_0, .int .i64 a2_1, .int .u64 a2_2, .int .u64 a2_3, .int .u64 a2_4, .int .u64 a2_5, .bool a2_6]) := by rw [ha]; exact putSel_on (e := (13, 42, .agg #[.slice A2_0 l2_0.length c2_0, .int .i64 a2_1, .int .u64 a2_2, .int .u64 a2_3, .int .u64 a2_4, .int .u64 a2_5, .bool a2_6])) 7 rfl rfl (hon 13 (by kernel_rfl)) rfl
       replace ha := Aside0.mk ha
       have BK168 := Aside0.mk Q_BK168
       have BK169 := Aside0.mk Q_BK169
       have BK170 := Aside0.mk Q_BK170
       have BK171 := Aside0.mk Q_BK171
       have HB := Aside0.mk Q_HB
       refine goes_ Try.func32 (by kernel_rfl) rfl #[.agg #[.slice A2_0 l2_0.length c2_0, .int .i64 a2_1, .int .u64 a2_2, .int .u64 a2_3, .int .u64 a2_4, .int .u64 a2_5, .bool a2_6]] (by rfl) rfl rfl (by first | (simp only [List.map_toArray, List.map_cons, List.map_nil, Act.eval, Array.getD_eq_getD_getElem?, Option.getD_some, e42]; done) | (simp only [List.map_toArray, List.map_cons, List.map_nil, Act.eval, Array.getD_eq_getD_getElem?, Option.getD_some, e42]; rfl)) ?_
       with_reducible refine (ledger_entry_sum.calls _ _ l2_0 a2_1 a2_2 a2_3 a2_4 a2_5 a2_6 t177 t178 _ ?side1 ?side2 A41.out).mono ?_
       (case side1 => repeat (first | exact (Kd.C_below HR2_0.out HB.out) | (with_reducible refine Kd.C_alloc ?_ _) | (with_reducible refine Kd.C_drewN ?_ _) | (with_reducible refine Kd.C_drew ?_)))
       (case side2 => exact HC2_0.out)
       rintro e w48 ⟨rfl, hb⟩
       refine ⟨_, rfl, ?_⟩
       have n0_ := ledger_way_both_f24.keepB BK168 hb
       have n1_ := ledger_way_both_f24.keepB BK169 hb
       have n2_ := ledger_way_both_f24.keepB BK170 hb
       have n3_ := ledger_way_both_f24.keepB BK171 hb
       have n4_ := Aside0.mk (below_step (by repeat (first | (with_reducible first | exact HB.out | apply below_alloc | apply pw_below_drewN | apply below_drew1 | refine below_set ?_ GE168.out | refine below_set ?_ GE169.out | refine below_set ?_ GE170.out | refine below_set ?_ GE171.out) | exact HB.out)) hb)
       have z_BK183 := fun (h0_ : b 27 = true) (h1_ : b 28 = false) => (show w48.heap[gb183]? = some (.cells #[.slice none 0 0, .int .i64 0, .int .u64 0, .int .u64 0, .int .u64 0, .int .u64 0, .bool false] 48 (0, 0)) from by first | exact (blk_below (g := gb183) (o := .cells #[.slice none 0 0, .int .i64 0, .int .u64 0, .int .u64 0, .int .u64 0, .int .u64 0, .bool false] 48 (0, 0)) (by (with_reducible repeat (first | refine blk_drewN ?_ _ | refine blk_drew ?_ | refine blk_alloc ?_ _)); exact (Q_BK183 h0_ h1_)) hb))
       clear BK168
       clear BK169
       clear BK170
       clear BK171
       clear HB
       have BK168 := n0_
       have BK169 := n1_
       have BK170 := n2_
       have BK171 := n3_
       have HB := n4_
       clear n0_ n1_ n2_ n3_ n4_
       (try clear hb)
       (try clear hb2)
       (try clear hk)
       (try clear hi)
       refine hK.out _ _ ⟨gb183, m27_, (by rw [ha.out]; exact putSel_upk 8 hb_ rfl rfl rfl), (by (with_reducible repeat (first | refine blk_drewN ?_ _ | refine blk_drew ?_ | refine blk_alloc ?_ _)); exact BK168.out), (by (with_reducible repeat (first | refine blk_drewN ?_ _ | refine blk_drew ?_ | refine blk_alloc ?_ _)); exact BK169.out), (by (with_reducible repeat (first | refine blk_drewN ?_ _ | refine blk_drew ?_ | refine blk_alloc ?_ _)); exact BK170.out), (by (with_reducible repeat (first | refine blk_drewN ?_ _ | refine blk_drew ?_ | refine blk_alloc ?_ _)); exact BK171.out), (by repeat (first | (with_reducible first | exact HB.out | apply below_alloc | apply pw_below_drewN | apply below_drew1 | refine below_set ?_ GE168.out | refine below_set ?_ GE169.out | refine below_set ?_ GE170.out | refine below_set ?_ GE171.out) | exact HB.out)), z_BK183, Q_GW183, Q_GE183, Q_NB168_183, Q_NB183_168, Q_NB169_183, Q_NB183_169, Q_NB170_183, Q_NB183_170, Q_NB171_183, Q_NB183_171, fun h0_ => absurd ((hoff 28 (by kernel_rfl)).symm.trans h0_) (by decide), Q_X27_⟩
      refine steps_cons ?_ ?_
      ·
       rintro b a w' ⟨gb183, m27_, ha, Q_BK168, Q_BK169, Q_BK170, Q_BK171, Q_HB, Q_BK183, Q_GW183, Q_GE183, Q_NB168_183, Q_NB183_168, Q_NB169_183, Q_NB183_169, Q_NB170_183, Q_NB183_170, Q_NB171_183, Q_NB183_171, Q_BK183_e28, Q_X27_⟩ hb_ hon hoff
       refine ⟨_, rfl, fun K hK => ?_⟩
       have e39 : a.tmps[39]? = some (.func (.func 25) #[] #[]) := by rw [ha]; exact putSel_on (e := (10, 39, .func (.func 25) #[] #[])) 4 rfl rfl (hon 10 (by kernel_rfl)) rfl
       have e41 : a.tmps[41]? = some (.agg #[.int .u64 t175, .int .u64 t176]) := by rw [ha]; exact putSel_on (e := (12, 41, .agg #[.int .u64 t175, .int .u64 t176])) 6 rfl rfl (hon 12 (by kernel_rfl)) rfl
       have e43 : a.tmps[43]? = some (.agg #[.int .u64 t177, .int .u64 t178]) := by rw [ha]; exact putSel_on (e := (14, 43, .agg #[.int .u64 t177, .int .u64 t178])) 8 rfl rfl (hon 14 (by kernel_rfl)) rfl
       replace ha := Aside0.mk ha
       have BK168 := Aside0.mk Q_BK168
       have BK169 := Aside0.mk Q_BK169
       have BK170 := Aside0.mk Q_BK170
       have BK171 := Aside0.mk Q_BK171
       have HB := Aside0.mk Q_HB
       refine goesT_ Try.func25 (by kernel_rfl) rfl #[.agg #[.int .u64 t175, .int .u64 t176], .agg #[.int .u64 t177, .int .u64 t178]] (by rfl) rfl rfl (by first | rfl | (go_simp; done)) (by first | (simp only [List.map_toArray, List.map_cons, List.map_nil, Act.eval, Array.getD_eq_getD_getElem?, Option.getD_some, e39, e41, e43]; done) | (simp only [List.map_toArray, List.map_cons, List.map_nil, Act.eval, Array.getD_eq_getD_getElem?, Option.getD_some, e39, e41, e43]; rfl)) ?_
       with_reducible refine (wide_Sub.calls t175 t176 t177 t178 t179 t180 _ A42.out).mono ?_
       rintro e w49 ⟨rfl, hb⟩
       refine ⟨_, rfl, ?_⟩
       have n0_ := ledger_way_both_f24.keepB BK168 hb
       have n1_ := ledger_way_both_f24.keepB BK169 hb
       have n2_ := ledger_way_both_f24.keepB BK170 hb
       have n3_ := ledger_way_both_f24.keepB BK171 hb
       have n4_ := Aside0.mk (below_step (by repeat (first | (with_reducible first | exact HB.out | apply below_alloc | apply pw_below_drewN | apply below_drew1 | refine below_set ?_ GE168.out | refine below_set ?_ GE169.out | refine below_set ?_ GE170.out | refine below_set ?_ GE171.out) | exact HB.out)) hb)
       have z_BK183 := fun (h0_ : b 27 = true) (h1_ : b 28 = false) => (show w49.heap[gb183]? = some (.cells #[.slice none 0 0, .int .i64 0, .int .u64 0, .int .u64 0, .int .u64 0, .int .u64 0, .bool false] 48 (0, 0)) from by first | exact (blk_below (g := gb183) (o := .cells #[.slice none 0 0, .int .i64 0, .int .u64 0, .int .u64 0, .int .u64 0, .int .u64 0, .bool false] 48 (0, 0)) (by (with_reducible repeat (first | refine blk_drewN ?_ _ | refine blk_drew ?_ | refine blk_alloc ?_ _)); exact (Q_BK183 h0_ h1_)) hb))
       clear BK168
       clear BK169
       clear BK170
       clear BK171
       clear HB
       have BK168 := n0_
       have BK169 := n1_
       have BK170 := n2_
       have BK171 := n3_
       have HB := n4_
       clear n0_ n1_ n2_ n3_ n4_
       (try clear hb)
       (try clear hb2)
       (try clear hk)
       (try clear hi)
       refine hK.out _ _ ⟨gb183, m27_, (by rw [ha.out]; exact putSel_upk 9 hb_ rfl rfl rfl), (by (with_reducible repeat (first | refine blk_drewN ?_ _ | refine blk_drew ?_ | refine blk_alloc ?_ _)); exact BK168.out), (by (with_reducible repeat (first | refine blk_drewN ?_ _ | refine blk_drew ?_ | refine blk_alloc ?_ _)); exact BK169.out), (by (with_reducible repeat (first | refine blk_drewN ?_ _ | refine blk_drew ?_ | refine blk_alloc ?_ _)); exact BK170.out), (by (with_reducible repeat (first | refine blk_drewN ?_ _ | refine blk_drew ?_ | refine blk_alloc ?_ _)); exact BK171.out), (by repeat (first | (with_reducible first | exact HB.out | apply below_alloc | apply pw_below_drewN | apply below_drew1 | refine below_set ?_ GE168.out | refine below_set ?_ GE169.out | refine below_set ?_ GE170.out | refine below_set ?_ GE171.out) | exact HB.out)), z_BK183, Q_GW183, Q_GE183, Q_NB168_183, Q_NB183_168, Q_NB169_183, Q_NB183_169, Q_NB170_183, Q_NB183_170, Q_NB171_183, Q_NB183_171, fun h0_ => absurd ((hoff 28 (by kernel_rfl)).symm.trans h0_) (by decide), Q_X27_⟩
      refine steps_cons ?_ ?_
      ·
       rintro b a w' ⟨gb183, m27_, ha, Q_BK168, Q_BK169, Q_BK170, Q_BK171, Q_HB, Q_BK183, Q_GW183, Q_GE183, Q_NB168_183, Q_NB183_168, Q_NB169_183, Q_NB183_169, Q_NB170_183, Q_NB183_170, Q_NB171_183, Q_NB183_171, Q_BK183_e28, Q_X27_⟩ hb_ hon hoff
       refine ⟨_, rfl, fun K hK => ?_⟩
       have e45 : a.tmps[45]? = some (.pointer (some ⟨gb168, 1, none⟩)) := by rw [ha]; exact (putSel_off rfl).trans rfl
       replace ha := Aside0.mk ha
       have BK168 := Aside0.mk Q_BK168
       have BK169 := Aside0.mk Q_BK169
       have BK170 := Aside0.mk Q_BK170
       have BK171 := Aside0.mk Q_BK171
       have HB := Aside0.mk Q_HB
       have hc0_ : w'.cell? ⟨gb168, 0, none⟩ = some (.func (.func 24) #[] #[]) := (blk_cell BK168.out 0).trans rfl
       have hc1_ : w'.cell? ⟨gb168, 1, none⟩ = some (.func (.func 25) #[] #[]) := (blk_cell BK168.out 1).trans rfl
       refine value_ (w1 := w') (v := .func (.func 25) #[] #[]) (by rfl) rfl ?_ ?_
       ·
        go_simp
        (try simp only [i64_w])
        try rfl
       refine hK.out _ _ ⟨gb183, m27_, (by rw [ha.out]; exact putSel_upk 10 hb_ rfl rfl rfl), Q_BK168, Q_BK169, Q_BK170, Q_BK171, Q_HB, Q_BK183, Q_GW183, Q_GE183, Q_NB168_183, Q_NB183_168, Q_NB169_183, Q_NB183_169, Q_NB170_183, Q_NB183_170, Q_NB171_183, Q_NB183_171, fun h0_ => absurd ((hoff 28 (by kernel_rfl)).symm.trans h0_) (by decide), Q_X27_⟩
      refine steps_cons ?_ ?_
      ·
       rintro b a w' ⟨gb183, m27_, ha, Q_BK168, Q_BK169, Q_BK170, Q_BK171, Q_HB, Q_BK183, Q_GW183, Q_GE183, Q_NB168_183, Q_NB183_168, Q_NB169_183, Q_NB183_169, Q_NB170_183, Q_NB183_170, Q_NB171_183, Q_NB183_171, Q_BK183_e28, Q_X27_⟩ hb_ hon hoff
       refine ⟨_, rfl, fun K hK => ?_⟩
       have e48 : a.tmps[48]? = some (.pointer (some ⟨gb169, 4, none⟩)) := by rw [ha]; exact (putSel_off rfl).trans rfl
       replace ha := Aside0.mk ha
       have BK168 := Aside0.mk Q_BK168
       have BK169 := Aside0.mk Q_BK169
       have BK170 := Aside0.mk Q_BK170
       have BK171 := Aside0.mk Q_BK171
       have HB := Aside0.mk Q_HB
       have hc0_ : w'.cell? ⟨gb169, 0, none⟩ = some (.slice A1_0 l1_0.length c1_0) := (blk_cell BK169.out 0).trans rfl
       have hc1_ : w'.cell? ⟨gb169, 1, none⟩ = some (.int .i64 a1_1) := (blk_cell BK169.out 1).trans rfl
       have hc2_ : w'.cell? ⟨gb169, 2, none⟩ = some (.int .u64 a1_2) := (blk_cell BK169.out 2).trans rfl
       have hc3_ : w'.cell? ⟨gb169, 3, none⟩ = some (.int .u64 a1_3) := (blk_cell BK169.out 3).trans rfl
       have hc4_ : w'.cell? ⟨gb169, 4, none⟩ = some (.int .u64 a1_4) := (blk_cell BK169.out 4).trans rfl
       have hc5_ : w'.cell? ⟨gb169, 5, none⟩ = some (.int .u64 a1_5) := (blk_cell BK169.out 5).trans rfl
       have hc6_ : w'.cell? ⟨gb169, 6, none⟩ = some (.bool a1_6) := (blk_cell BK169.out 6).trans rfl
       refine value_ (w1 := w') (v := .agg #[.int .u64 a1_4, .int .u64 a1_5]) (by rfl) rfl ?_ ?_
       ·
        go_simp
        (try simp only [i64_w])
        try rfl
       refine hK.out _ _ ⟨gb183, m27_, (by rw [ha.out]; exact putSel_upk 11 hb_ rfl rfl rfl), Q_BK168, Q_BK169, Q_BK170, Q_BK171, Q_HB, Q_BK183, Q_GW183, Q_GE183, Q_NB168_183, Q_NB183_168, Q_NB169_183, Q_NB183_169, Q_NB170_183, Q_NB183_170, Q_NB171_183, Q_NB183_171, fun h0_ => absurd ((hoff 28 (by kernel_rfl)).symm.trans h0_) (by decide), Q_X27_⟩
      refine steps_cons ?_ ?_
      ·
       rintro b a w' ⟨gb183, m27_, ha, Q_BK168, Q_BK169, Q_BK170, Q_BK171, Q_HB, Q_BK183, Q_GW183, Q_GE183, Q_NB168_183, Q_NB183_168, Q_NB169_183, Q_NB183_169, Q_NB170_183, Q_NB183_170, Q_NB171_183, Q_NB183_171, Q_BK183_e28, Q_X27_⟩ hb_ hon hoff
       refine ⟨_, rfl, fun K hK => ?_⟩
       have e51 : a.tmps[51]? = some (.pointer (some ⟨gb170, 4, none⟩)) := by rw [ha]; exact (putSel_off rfl).trans rfl
       replace ha := Aside0.mk ha
       have BK168 := Aside0.mk Q_BK168
       have BK169 := Aside0.mk Q_BK169
       have BK170 := Aside0.mk Q_BK170
       have BK171 := Aside0.mk Q_BK171
       have HB := Aside0.mk Q_HB
       have hc0_ : w'.cell? ⟨gb170, 0, none⟩ = some (.slice A2_0 l2_0.length c2_0) := (blk_cell BK170.out 0).trans rfl
       have hc1_ : w'.cell? ⟨gb170, 1, none⟩ = some (.int .i64 a2_1) := (blk_cell BK170.out 1).trans rfl
       have hc2_ : w'.cell? ⟨gb170, 2, none⟩ = some (.int .u64 a2_2) := (blk_cell BK170.out 2).trans rfl
       have hc3_ : w'.cell? ⟨gb170, 3, none⟩ = some (.int .u64 a2_3) := (blk_cell BK170.out 3).trans rfl
       have hc4_ : w'.cell? ⟨gb170, 4, none⟩ = some (.int .u64 a2_4) := (blk_cell BK170.out 4).trans rfl
       have hc5_ : w'.cell? ⟨gb170, 5, none⟩ = some (.int .u64 a2_5) := (blk_cell BK170.out 5).trans rfl
       have hc6_ : w'.cell? ⟨gb170, 6, none⟩ = some (.bool a2_6) := (blk_cell BK170.out 6).trans rfl
       refine value_ (w1 := w') (v := .agg #[.int .u64 a2_4, .int .u64 a2_5]) (by rfl) rfl ?_ ?_
       ·
        go_simp
        (try simp only [i64_w])
        try rfl
       refine hK.out _ _ ⟨gb183, m27_, (by rw [ha.out]; exact putSel_upk 12 hb_ rfl rfl rfl), Q_BK168, Q_BK169, Q_BK170, Q_BK171, Q_HB, Q_BK183, Q_GW183, Q_GE183, Q_NB168_183, Q_NB183_168, Q_NB169_183, Q_NB183_169, Q_NB170_183, Q_NB183_170, Q_NB171_183, Q_NB183_171, fun h0_ => absurd ((hoff 28 (by kernel_rfl)).symm.trans h0_) (by decide), Q_X27_⟩
      refine steps_cons ?_ ?_
      ·
       rintro b a w' ⟨gb183, m27_, ha, Q_BK168, Q_BK169, Q_BK170, Q_BK171, Q_HB, Q_BK183, Q_GW183, Q_GE183, Q_NB168_183, Q_NB183_168, Q_NB169_183, Q_NB183_169, Q_NB170_183, Q_NB183_170, Q_NB171_183, Q_NB183_171, Q_BK183_e28, Q_X27_⟩ hb_ hon hoff
       refine ⟨_, rfl, fun K hK => ?_⟩
       have e46 : a.tmps[46]? = some (.func (.func 25) #[] #[]) := by rw [ha]; exact putSel_on (e := (17, 46, .func (.func 25) #[] #[])) 10 rfl rfl (hon 17 (by kernel_rfl)) rfl
       have e49 : a.tmps[49]? = some (.agg #[.int .u64 a1_4, .int .u64 a1_5]) := by rw [ha]; exact putSel_on (e := (20, 49, .agg #[.int .u64 a1_4, .int .u64 a1_5])) 11 rfl rfl (hon 20 (by kernel_rfl)) rfl
       have e52 : a.tmps[52]? = some (.agg #[.int .u64 a2_4, .int .u64 a2_5]) := by rw [ha]; exact putSel_on (e := (23, 52, .agg #[.int .u64 a2_4, .int .u64 a2_5])) 12 rfl rfl (hon 23 (by kernel_rfl)) rfl
       replace ha := Aside0.mk ha
       have BK168 := Aside0.mk Q_BK168
       have BK169 := Aside0.mk Q_BK169
       have BK170 := Aside0.mk Q_BK170
       have BK171 := Aside0.mk Q_BK171
       have HB := Aside0.mk Q_HB
       refine goesT_ Try.func25 (by kernel_rfl) rfl #[.agg #[.int .u64 a1_4, .int .u64 a1_5], .agg #[.int .u64 a2_4, .int .u64 a2_5]] (by rfl) rfl rfl (by first | rfl | (go_simp; done)) (by first | (simp only [List.map_toArray, List.map_cons, List.map_nil, Act.eval, Array.getD_eq_getD_getElem?, Option.getD_some, e46, e49, e52]; done) | (simp only [List.map_toArray, List.map_cons, List.map_nil, Act.eval, Array.getD_eq_getD_getElem?, Option.getD_some, e46, e49, e52]; rfl)) ?_
       with_reducible refine (wide_Sub.calls a1_4 a1_5 a2_4 a2_5 t181 t182 _ A43.out).mono ?_
       rintro e w50 ⟨rfl, hb⟩
       refine ⟨_, rfl, ?_⟩
       have n0_ := ledger_way_both_f24.keepB BK168 hb
       have n1_ := ledger_way_both_f24.keepB BK169 hb
       have n2_ := ledger_way_both_f24.keepB BK170 hb
       have n3_ := ledger_way_both_f24.keepB BK171 hb
       have n4_ := Aside0.mk (below_step (by repeat (first | (with_reducible first | exact HB.out | apply below_alloc | apply pw_below_drewN | apply below_drew1 | refine below_set ?_ GE168.out | refine below_set ?_ GE169.out | refine below_set ?_ GE170.out | refine below_set ?_ GE171.out) | exact HB.out)) hb)
       have z_BK183 := fun (h0_ : b 27 = true) (h1_ : b 28 = false) => (show w50.heap[gb183]? = some (.cells #[.slice none 0 0, .int .i64 0, .int .u64 0, .int .u64 0, .int .u64 0, .int .u64 0, .bool false] 48 (0, 0)) from by first | exact (blk_below (g := gb183) (o := .cells #[.slice none 0 0, .int .i64 0, .int .u64 0, .int .u64 0, .int .u64 0, .int .u64 0, .bool false] 48 (0, 0)) (by (with_reducible repeat (first | refine blk_drewN ?_ _ | refine blk_drew ?_ | refine blk_alloc ?_ _)); exact (Q_BK183 h0_ h1_)) hb))
       clear BK168
       clear BK169
       clear BK170
       clear BK171
       clear HB
       have BK168 := n0_
       have BK169 := n1_
       have BK170 := n2_
       have BK171 := n3_
       have HB := n4_
       clear n0_ n1_ n2_ n3_ n4_
       (try clear hb)
       (try clear hb2)
       (try clear hk)
       (try clear hi)
       refine hK.out _ _ ⟨gb183, m27_, (by rw [ha.out]; exact putSel_upk 13 hb_ rfl rfl rfl), (by (with_reducible repeat (first | refine blk_drewN ?_ _ | refine blk_drew ?_ | refine blk_alloc ?_ _)); exact BK168.out), (by (with_reducible repeat (first | refine blk_drewN ?_ _ | refine blk_drew ?_ | refine blk_alloc ?_ _)); exact BK169.out), (by (with_reducible repeat (first | refine blk_drewN ?_ _ | refine blk_drew ?_ | refine blk_alloc ?_ _)); exact BK170.out), (by (with_reducible repeat (first | refine blk_drewN ?_ _ | refine blk_drew ?_ | refine blk_alloc ?_ _)); exact BK171.out), (by repeat (first | (with_reducible first | exact HB.out | apply below_alloc | apply pw_below_drewN | apply below_drew1 | refine below_set ?_ GE168.out | refine below_set ?_ GE169.out | refine below_set ?_ GE170.out | refine below_set ?_ GE171.out) | exact HB.out)), z_BK183, Q_GW183, Q_GE183, Q_NB168_183, Q_NB183_168, Q_NB169_183, Q_NB183_169, Q_NB170_183, Q_NB183_170, Q_NB171_183, Q_NB183_171, fun h0_ => absurd ((hoff 28 (by kernel_rfl)).symm.trans h0_) (by decide), Q_X27_⟩
      refine steps_cons ?_ ?_
      ·
       rintro b a w' ⟨gb183, m27_, ha, Q_BK168, Q_BK169, Q_BK170, Q_BK171, Q_HB, Q_BK183, Q_GW183, Q_GE183, Q_NB168_183, Q_NB183_168, Q_NB169_183, Q_NB183_169, Q_NB170_183, Q_NB183_170, Q_NB171_183, Q_NB183_171, Q_BK183_e28, Q_X27_⟩ hb_ hon hoff
       refine ⟨_, rfl, fun K hK => ?_⟩
       have e37 : a.tmps[37]? = some (.int .i64 t174) := by rw [ha]; exact putSel_on (e := (8, 37, .int .i64 t174)) 3 rfl rfl (hon 8 (by kernel_rfl)) rfl
       have e44 : a.tmps[44]? = some (.agg #[.int .u64 t179, .int .u64 t180]) := by rw [ha]; exact putSel_on (e := (15, 44, .agg #[.int .u64 t179, .int .u64 t180])) 9 rfl rfl (hon 15 (by kernel_rfl)) rfl
       have e53 : a.tmps[53]? = some (.agg #[.int .u64 t181, .int .u64 t182]) := by rw [ha]; exact putSel_on (e := (24, 53, .agg #[.int .u64 t181, .int .u64 t182])) 13 rfl rfl (hon 24 (by kernel_rfl)) rfl
       replace ha := Aside0.mk ha
       have BK168 := Aside0.mk Q_BK168
       have BK169 := Aside0.mk Q_BK169
       have BK170 := Aside0.mk Q_BK170
       have BK171 := Aside0.mk Q_BK171
       have HB := Aside0.mk Q_HB
       refine value_ (w1 := w') (v := .agg #[.slice none 0 0, .int .i64 t174, .int .u64 t179, .int .u64 t180, .int .u64 t181, .int .u64 t182, .bool false]) (by rfl) rfl ?_ ?_
       ·
        go_simp
        (try simp only [i64_w])
        try rfl
       refine hK.out _ _ ⟨gb183, m27_, (by rw [ha.out]; exact putSel_upk 14 hb_ rfl rfl rfl), Q_BK168, Q_BK169, Q_BK170, Q_BK171, Q_HB, Q_BK183, Q_GW183, Q_GE183, Q_NB168_183, Q_NB183_168, Q_NB169_183, Q_NB183_169, Q_NB170_183, Q_NB183_170, Q_NB171_183, Q_NB183_171, fun h0_ => absurd ((hoff 28 (by kernel_rfl)).symm.trans h0_) (by decide), Q_X27_⟩
      refine steps_cons ?_ ?_
      ·
       rintro b a w' ⟨gb183, m27_, ha, Q_BK168, Q_BK169, Q_BK170, Q_BK171, Q_HB, Q_BK183, Q_GW183, Q_GE183, Q_NB168_183, Q_NB183_168, Q_NB169_183, Q_NB183_169, Q_NB170_183, Q_NB183_170, Q_NB171_183, Q_NB183_171, Q_BK183_e28, Q_X27_⟩ hb_ hon hoff
       refine ⟨_, rfl, fun K hK => ?_⟩
       have e54 : a.tmps[54]? = some (.agg #[.slice none 0 0, .int .i64 t174, .int .u64 t179, .int .u64 t180, .int .u64 t181, .int .u64 t182, .bool false]) := by rw [ha]; exact putSel_on (e := (25, 54, .agg #[.slice none 0 0, .int .i64 t174, .int .u64 t179, .int .u64 t180, .int .u64 t181, .int .u64 t182, .bool false])) 14 rfl rfl (hon 25 (by kernel_rfl)) rfl
       replace ha := Aside0.mk ha
       have BK168 := Aside0.mk Q_BK168
       have BK169 := Aside0.mk Q_BK169
       have BK170 := Aside0.mk Q_BK170
       have BK171 := Aside0.mk Q_BK171
       have HB := Aside0.mk Q_HB
       refine value_ (w1 := w') (v := .agg #[.slice none 0 0, .int .i64 t174, .int .u64 t179, .int .u64 t180, .int .u64 t181, .int .u64 t182, .bool false]) (by rfl) rfl ?_ ?_
       ·
        go_simp
        (try simp only [i64_w])
        try rfl
       refine hK.out _ _ ⟨gb183, m27_, (by rw [ha.out]; exact putSel_upk 15 hb_ rfl rfl rfl), Q_BK168, Q_BK169, Q_BK170, Q_BK171, Q_HB, Q_BK183, Q_GW183, Q_GE183, Q_NB168_183, Q_NB183_168, Q_NB169_183, Q_NB183_169, Q_NB170_183, Q_NB183_170, Q_NB171_183, Q_NB183_171, fun h0_ => absurd ((hoff 28 (by kernel_rfl)).symm.trans h0_) (by decide), Q_X27_⟩
      refine steps_cons ?_ ?_
      ·
       rintro b a w' ⟨gb183, m27_, ha, Q_BK168, Q_BK169, Q_BK170, Q_BK171, Q_HB, Q_BK183, Q_GW183, Q_GE183, Q_NB168_183, Q_NB183_168, Q_NB169_183, Q_NB183_169, Q_NB170_183, Q_NB183_170, Q_NB171_183, Q_NB183_171, Q_BK183_e28, Q_X27_⟩ hb_ hon hoff
       refine ⟨_, rfl, fun K hK => ?_⟩
       replace ha := Aside0.mk ha
       have BK168 := Aside0.mk Q_BK168
       have BK169 := Aside0.mk Q_BK169
       have BK170 := Aside0.mk Q_BK170
       have BK171 := Aside0.mk Q_BK171
       have HB := Aside0.mk Q_HB
       refine box_step ?hg (N := 8) ?hd (cs := #[.slice none 0 0, .int .i64 0, .int .u64 0, .int .u64 0, .int .u64 0, .int .u64 0, .bool false]) (t := 48) ?hr ?_; (case hd => rfl); (case hg => rfl); (case hr => first | (go_simp; done) | (go_simp; rfl))
       intro gb183 hg w45 hbox hb
       have n0_ := ledger_way_both_f24.keepB BK168 hb
       have n1_ := ledger_way_both_f24.keepB BK169 hb
       have n2_ := ledger_way_both_f24.keepB BK170 hb
       have n3_ := ledger_way_both_f24.keepB BK171 hb
       have n4_ := Aside0.mk (below_step (by repeat (first | (with_reducible first | exact HB.out | apply below_alloc | apply pw_below_drewN | apply below_drew1 | refine below_set ?_ GE168.out | refine below_set ?_ GE169.out | refine below_set ?_ GE170.out | refine below_set ?_ GE171.out) | exact HB.out)) hb)
       have n5_ := Aside0.mk (hbox)
       have n6_ := Aside0.mk ((by rw [hg]; exact (below_size (by repeat (first | (with_reducible first | exact HB.out | apply below_alloc | apply pw_below_drewN | apply below_drew1 | refine below_set ?_ GE168.out | refine below_set ?_ GE169.out | refine below_set ?_ GE170.out | refine below_set ?_ GE171.out) | exact HB.out))) : w.heap.size ≤ gb183))
       have n7_ := Aside0.mk ((by rw [hg]; exact (below_size (by repeat (first | (with_reducible first | exact HB.out | apply below_alloc | apply pw_below_drewN | apply below_drew1 | refine below_set ?_ GE168.out | refine below_set ?_ GE169.out | refine below_set ?_ GE170.out | refine below_set ?_ GE171.out) | exact HB.out))) : w.heap.size ≤ gb183))
       have n8_ := ledger_way_both_f24.neL BK168 hg
       have n9_ := ledger_way_both_f24.neG BK168 hg
       have n10_ := ledger_way_both_f24.neL BK169 hg
       have n11_ := ledger_way_both_f24.neG BK169 hg
       have n12_ := ledger_way_both_f24.neL BK170 hg
       have n13_ := ledger_way_both_f24.neG BK170 hg
       have n14_ := ledger_way_both_f24.neL BK171 hg
       have n15_ := ledger_way_both_f24.neG BK171 hg
       clear BK168
       clear BK169
       clear BK170
       clear BK171
       clear HB
       have BK168 := n0_
       have BK169 := n1_
       have BK170 := n2_
       have BK171 := n3_
       have HB := n4_
       have BK183 := n5_
       have GW183 := n6_
       have GE183 := n7_
       have NB168_183 := n8_
       have NB183_168 := n9_
       have NB169_183 := n10_
       have NB183_169 := n11_
       have NB170_183 := n12_
       have NB183_170 := n13_
       have NB171_183 := n14_
       have NB183_171 := n15_
       clear n0_ n1_ n2_ n3_ n4_ n5_ n6_ n7_ n8_ n9_ n10_ n11_ n12_ n13_ n14_ n15_
       clear hb hbox hg
       refine hK.out _ _ ⟨gb183, (.pointer (some ⟨gb183, 0, none⟩)), (by rw [ha.out]; exact putSel_upk 16 hb_ rfl rfl rfl), (by (with_reducible repeat (first | refine blk_drewN ?_ _ | refine blk_drew ?_ | refine blk_alloc ?_ _)); exact BK168.out), (by (with_reducible repeat (first | refine blk_drewN ?_ _ | refine blk_drew ?_ | refine blk_alloc ?_ _)); exact BK169.out), (by (with_reducible repeat (first | refine blk_drewN ?_ _ | refine blk_drew ?_ | refine blk_alloc ?_ _)); exact BK170.out), (by (with_reducible repeat (first | refine blk_drewN ?_ _ | refine blk_drew ?_ | refine blk_alloc ?_ _)); exact BK171.out), (by repeat (first | (with_reducible first | exact HB.out | apply below_alloc | apply pw_below_drewN | apply below_drew1 | refine below_set ?_ GE168.out | refine below_set ?_ GE169.out | refine below_set ?_ GE170.out | refine below_set ?_ GE171.out | refine below_set ?_ GE183.out) | exact HB.out)), fun _ _ => (by (with_reducible repeat (first | refine blk_drewN ?_ _ | refine blk_drew ?_ | refine blk_alloc ?_ _)); exact BK183.out), fun _ => GW183.out, fun _ => GE183.out, fun _ => NB168_183.out, fun _ => NB183_168.out, fun _ => NB169_183.out, fun _ => NB183_169.out, fun _ => NB170_183.out, fun _ => NB183_170.out, fun _ => NB171_183.out, fun _ => NB183_171.out, fun h0_ => absurd ((hoff 28 (by kernel_rfl)).symm.trans h0_) (by decide), fun _ => rfl⟩
      refine steps_cons ?_ ?_
      ·
       rintro b a w' ⟨gb183, m27_, ha, Q_BK168, Q_BK169, Q_BK170, Q_BK171, Q_HB, Q_BK183, Q_GW183, Q_GE183, Q_NB168_183, Q_NB183_168, Q_NB169_183, Q_NB183_169, Q_NB170_183, Q_NB183_170, Q_NB171_183, Q_NB183_171, Q_BK183_e28, Q_X27_⟩ hb_ hon hoff
       refine ⟨_, rfl, fun K hK => ?_⟩
       have e8 : a.tmps[8]? = some (m27_) := by rw [ha]; exact putSel_on (e := (27, 8, m27_)) 16 rfl rfl (hon 27 (by kernel_rfl)) rfl
       rw [Q_X27_ (hon 27 (by kernel_rfl))] at e8
       have e55 : a.tmps[55]? = some (.agg #[.slice none 0 0, .int .i64 t174, .int .u64 t179, .int .u64 t180, .int .u64 t181, .int .u64 t182, .bool false]) := by rw [ha]; exact putSel_on (e := (26, 55, .agg #[.slice none 0 0, .int .i64 t174, .int .u64 t179, .int .u64 t180, .int .u64 t181, .int .u64 t182, .bool false])) 15 rfl rfl (hon 26 (by kernel_rfl)) rfl
       replace ha := Aside0.mk ha
       have BK168 := Aside0.mk Q_BK168
       have BK169 := Aside0.mk Q_BK169
       have BK170 := Aside0.mk Q_BK170
       have BK171 := Aside0.mk Q_BK171
       have HB := Aside0.mk Q_HB
       have BK183 := Aside0.mk (Q_BK183 (hon 27 (by kernel_rfl)) hb_)
       have GW183 := Aside0.mk (Q_GW183 (hon 27 (by kernel_rfl)))
       have GE183 := Aside0.mk (Q_GE183 (hon 27 (by kernel_rfl)))
       have NB168_183 := Aside0.mk (Q_NB168_183 (hon 27 (by kernel_rfl)))
       have NB183_168 := Aside0.mk (Q_NB183_168 (hon 27 (by kernel_rfl)))
       have NB169_183 := Aside0.mk (Q_NB169_183 (hon 27 (by kernel_rfl)))
       have NB183_169 := Aside0.mk (Q_NB183_169 (hon 27 (by kernel_rfl)))
       have NB170_183 := Aside0.mk (Q_NB170_183 (hon 27 (by kernel_rfl)))
       have NB183_170 := Aside0.mk (Q_NB183_170 (hon 27 (by kernel_rfl)))
       have NB171_183 := Aside0.mk (Q_NB171_183 (hon 27 (by kernel_rfl)))
       have NB183_171 := Aside0.mk (Q_NB183_171 (hon 27 (by kernel_rfl)))
       have hs52 : w'.cell? ⟨gb183, 0, none⟩ = some (.slice none 0 0) := (blk_cell BK183.out 0).trans rfl
       have hfs52 := blk_frozen BK183.out 0
       have hns52_0 := NB168_183.out
       have hns52_1 := NB169_183.out
       have hns52_2 := NB170_183.out
       have hns52_3 := NB171_183.out
       have hms52_0 := NB183_168.out
       have hms52_1 := NB183_169.out
       have hms52_2 := NB183_170.out
       have hms52_3 := NB183_171.out
       have hs53 : w'.cell? ⟨gb183, 1, none⟩ = some (.int .i64 0) := (blk_cell BK183.out 1).trans rfl
       have hfs53 := blk_frozen BK183.out 1
       have hns53_0 := NB168_183.out
       have hns53_1 := NB169_183.out
       have hns53_2 := NB170_183.out
       have hns53_3 := NB171_183.out
       have hms53_0 := NB183_168.out
       have hms53_1 := NB183_169.out
       have hms53_2 := NB183_170.out
       have hms53_3 := NB183_171.out
       have hs54 : w'.cell? ⟨gb183, 2, none⟩ = some (.int .u64 0) := (blk_cell BK183.out 2).trans rfl
       have hfs54 := blk_frozen BK183.out 2
       have hns54_0 := NB168_183.out
       have hns54_1 := NB169_183.out
       have hns54_2 := NB170_183.out
       have hns54_3 := NB171_183.out
       have hms54_0 := NB183_168.out
       have hms54_1 := NB183_169.out
       have hms54_2 := NB183_170.out
       have hms54_3 := NB183_171.out
       have hs55 : w'.cell? ⟨gb183, 3, none⟩ = some (.int .u64 0) := (blk_cell BK183.out 3).trans rfl
       have hfs55 := blk_frozen BK183.out 3
       have hns55_0 := NB168_183.out
       have hns55_1 := NB169_183.out
       have hns55_2 := NB170_183.out
       have hns55_3 := NB171_183.out
       have hms55_0 := NB183_168.out
       have hms55_1 := NB183_169.out
       have hms55_2 := NB183_170.out
       have hms55_3 := NB183_171.out
       have hs56 : w'.cell? ⟨gb183, 4, none⟩ = some (.int .u64 0) := (blk_cell BK183.out 4).trans rfl
       have hfs56 := blk_frozen BK183.out 4
       have hns56_0 := NB168_183.out
       have hns56_1 := NB169_183.out
       have hns56_2 := NB170_183.out
       have hns56_3 := NB171_183.out
       have hms56_0 := NB183_168.out
       have hms56_1 := NB183_169.out
       have hms56_2 := NB183_170.out
       have hms56_3 := NB183_171.out
       have hs57 : w'.cell? ⟨gb183, 5, none⟩ = some (.int .u64 0) := (blk_cell BK183.out 5).trans rfl
       have hfs57 := blk_frozen BK183.out 5
       have hns57_0 := NB168_183.out
       have hns57_1 := NB169_183.out
       have hns57_2 := NB170_183.out
       have hns57_3 := NB171_183.out
       have hms57_0 := NB183_168.out
       have hms57_1 := NB183_169.out
       have hms57_2 := NB183_170.out
       have hms57_3 := NB183_171.out
       have hs58 : w'.cell? ⟨gb183, 6, none⟩ = some (.bool false) := (blk_cell BK183.out 6).trans rfl
       have hfs58 := blk_frozen BK183.out 6
       have hns58_0 := NB168_183.out
       have hns58_1 := NB169_183.out
       have hns58_2 := NB170_183.out
       have hns58_3 := NB171_183.out
       have hms58_0 := NB183_168.out
       have hms58_1 := NB183_169.out
       have hms58_2 := NB183_170.out
       have hms58_3 := NB183_171.out
       refine skip_ (w1 := ?_) ?_ ?_ ?_ ?_
       rotate_left
       · rfl
       · rfl
       ·
         go_simp
         rfl
       refine hK.out _ _ ⟨gb183, m27_, (by rw [ha.out]; exact putSel_none (v := undef) rfl), (by (repeat (first | (with_reducible first | refine blk_drewN ?_ _ | refine blk_drew ?_ | refine blk_alloc ?_ _) | refine blk_far ?_ NB168_183.out _)); (with_reducible repeat (first | refine blk_drewN ?_ _ | refine blk_drew ?_ | refine blk_alloc ?_ _)); exact BK168.out), (by (repeat (first | (with_reducible first | refine blk_drewN ?_ _ | refine blk_drew ?_ | refine blk_alloc ?_ _) | refine blk_far ?_ NB169_183.out _)); (with_reducible repeat (first | refine blk_drewN ?_ _ | refine blk_drew ?_ | refine blk_alloc ?_ _)); exact BK169.out), (by (repeat (first | (with_reducible first | refine blk_drewN ?_ _ | refine blk_drew ?_ | refine blk_alloc ?_ _) | refine blk_far ?_ NB170_183.out _)); (with_reducible repeat (first | refine blk_drewN ?_ _ | refine blk_drew ?_ | refine blk_alloc ?_ _)); exact BK170.out), (by (repeat (first | (with_reducible first | refine blk_drewN ?_ _ | refine blk_drew ?_ | refine blk_alloc ?_ _) | refine blk_far ?_ NB171_183.out _)); (with_reducible repeat (first | refine blk_drewN ?_ _ | refine blk_drew ?_ | refine blk_alloc ?_ _)); exact BK171.out), (by repeat (first | (with_reducible first | exact HB.out | apply below_alloc | apply pw_below_drewN | apply below_drew1 | refine below_set ?_ GE168.out | refine below_set ?_ GE169.out | refine below_set ?_ GE170.out | refine below_set ?_ GE171.out | refine below_set ?_ GE183.out) | exact HB.out)), fun _ h1_ => absurd ((up_self b 28).symm.trans h1_) (by decide), fun _ => GW183.out, fun _ => GE183.out, fun _ => NB168_183.out, fun _ => NB183_168.out, fun _ => NB169_183.out, fun _ => NB183_169.out, fun _ => NB170_183.out, fun _ => NB183_170.out, fun _ => NB171_183.out, fun _ => NB183_171.out, fun _ => (by (with_reducible repeat (first | refine blk_drewN ?_ _ | refine blk_drew ?_ | refine blk_alloc ?_ _)); refine blk_put (cs := #[.slice none 0 0, .int .i64 t174, .int .u64 t179, .int .u64 t180, .int .u64 t181, .int .u64 t182, .bool false]) ?_ 6 _ rfl; (with_reducible repeat (first | refine blk_drewN ?_ _ | refine blk_drew ?_ | refine blk_alloc ?_ _)); refine blk_put (cs := #[.slice none 0 0, .int .i64 t174, .int .u64 t179, .int .u64 t180, .int .u64 t181, .int .u64 0, .bool false]) ?_ 5 _ rfl; (with_reducible repeat (first | refine blk_drewN ?_ _ | refine blk_drew ?_ | refine blk_alloc ?_ _)); refine blk_put (cs := #[.slice none 0 0, .int .i64 t174, .int .u64 t179, .int .u64 t180, .int .u64 0, .int .u64 0, .bool false]) ?_ 4 _ rfl; (with_reducible repeat (first | refine blk_drewN ?_ _ | refine blk_drew ?_ | refine blk_alloc ?_ _)); refine blk_put (cs := #[.slice none 0 0, .int .i64 t174, .int .u64 t179, .int .u64 0, .int .u64 0, .int .u64 0, .bool false]) ?_ 3 _ rfl; (with_reducible repeat (first | refine blk_drewN ?_ _ | refine blk_drew ?_ | refine blk_alloc ?_ _)); refine blk_put (cs := #[.slice none 0 0, .int .i64 t174, .int .u64 0, .int .u64 0, .int .u64 0, .int .u64 0, .bool false]) ?_ 2 _ rfl; (with_reducible repeat (first | refine blk_drewN ?_ _ | refine blk_drew ?_ | refine blk_alloc ?_ _)); refine blk_put (cs := #[.slice none 0 0, .int .i64 0, .int .u64 0, .int .u64 0, .int .u64 0, .int .u64 0, .bool false]) ?_ 1 _ rfl; (with_reducible repeat (first | refine blk_drewN ?_ _ | refine blk_drew ?_ | refine blk_alloc ?_ _)); refine blk_put (cs := #[.slice none 0 0, .int .i64 0, .int .u64 0, .int .u64 0, .int .u64 0, .int .u64 0, .bool false]) ?_ 0 _ rfl; (with_reducible repeat (first | refine blk_drewN ?_ _ | refine blk_drew ?_ | refine blk_alloc ?_ _)); exact BK183.out), Q_X27_⟩
      exact steps_nil
     rintro b a w58 hall ⟨gb183, m27_, ha, Q_BK168, Q_BK169, Q_BK170, Q_BK171, Q_HB, Q_BK183, Q_GW183, Q_GE183, Q_NB168_183, Q_NB183_168, Q_NB169_183, Q_NB183_169, Q_NB170_183, Q_NB183_170, Q_NB171_183, Q_NB183_171, Q_BK183_e28, Q_X27_⟩
     clear BK168 BK169 BK170 BK171 HB
     have hb1_ := hall 1 (by kernel_rfl)
     have hb4_ := hall 4 (by kernel_rfl)
     have hb7_ := hall 7 (by kernel_rfl)
     have hb8_ := hall 8 (by kernel_rfl)
     have hb10_ := hall 10 (by kernel_rfl)
     have hb11_ := hall 11 (by kernel_rfl)
     have hb12_ := hall 12 (by kernel_rfl)
     have hb13_ := hall 13 (by kernel_rfl)
     have hb14_ := hall 14 (by kernel_rfl)
     have hb15_ := hall 15 (by kernel_rfl)
     have hb17_ := hall 17 (by kernel_rfl)
     have hb20_ := hall 20 (by kernel_rfl)
     have hb23_ := hall 23 (by kernel_rfl)
     have hb24_ := hall 24 (by kernel_rfl)
     have hb25_ := hall 25 (by kernel_rfl)
     have hb26_ := hall 26 (by kernel_rfl)
     have hb27_ := hall 27 (by kernel_rfl)
     have hb28_ := hall 28 (by kernel_rfl)
     subst ha
     obtain rfl := Q_X27_ hb27_
     simp only [putSel, hb1_, hb4_, hb7_, hb8_, hb10_, hb11_, hb12_, hb13_, hb14_, hb15_, hb17_, hb20_, hb23_, hb24_, hb25_, hb26_, hb27_, hb28_, if_true, Act.put, List.setIfInBounds_toArray, List.set_cons_zero, List.set_cons_succ]
     have BK168 := Aside0.mk Q_BK168
     clear Q_BK168
     have BK169 := Aside0.mk Q_BK169
     clear Q_BK169
     have BK170 := Aside0.mk Q_BK170
     clear Q_BK170
     have BK171 := Aside0.mk Q_BK171
     clear Q_BK171
     have HB := Aside0.mk Q_HB
     clear Q_HB
     clear Q_BK183
     have GW183 := Aside0.mk (Q_GW183 hb27_)
     clear Q_GW183
     have GE183 := Aside0.mk (Q_GE183 hb27_)
     clear Q_GE183
     have NB168_183 := Aside0.mk (Q_NB168_183 hb27_)
     clear Q_NB168_183
     have NB183_168 := Aside0.mk (Q_NB183_168 hb27_)
     clear Q_NB183_168
     have NB169_183 := Aside0.mk (Q_NB169_183 hb27_)
     clear Q_NB169_183
     have NB183_169 := Aside0.mk (Q_NB183_169 hb27_)
     clear Q_NB183_169
     have NB170_183 := Aside0.mk (Q_NB170_183 hb27_)
     clear Q_NB170_183
     have NB183_170 := Aside0.mk (Q_NB183_170 hb27_)
     clear Q_NB183_170
     have NB171_183 := Aside0.mk (Q_NB171_183 hb27_)
     clear Q_NB171_183
     have NB183_171 := Aside0.mk (Q_NB183_171 hb27_)
     clear Q_NB183_171
     have BK183 := Aside0.mk (Q_BK183_e28 hb28_)
     clear Q_BK183_e28
     clear hall hb1_ hb4_ hb7_ hb8_ hb10_ hb11_ hb12_ hb13_ hb14_ hb15_ hb17_ hb20_ hb23_ hb24_ hb25_ hb26_ hb27_ hb28_
     have hnb59 := NB169_168.out
     have hnc59 := NB168_169.out
     have hnb60 := NB169_170.out
     have hnc60 := NB170_169.out
     have hnb61 := NB169_171.out
     have hnc61 := NB171_169.out
     have hnb62 := NB169_183.out
     have hnc62 := NB183_169.out
     have hcz63_0 : w58.cell? ⟨gb169, 0, none⟩ = some (.slice A1_0 l1_0.length c1_0) := (blk_cell BK169.out 0).trans rfl
     have hcz63_1 : w58.cell? ⟨gb169, 1, none⟩ = some (.int .i64 a1_1) := (blk_cell BK169.out 1).trans rfl
     have hcz63_2 : w58.cell? ⟨gb169, 2, none⟩ = some (.int .u64 a1_2) := (blk_cell BK169.out 2).trans rfl
     have hcz63_3 : w58.cell? ⟨gb169, 3, none⟩ = some (.int .u64 a1_3) := (blk_cell BK169.out 3).trans rfl
     have hcz63_4 : w58.cell? ⟨gb169, 4, none⟩ = some (.int .u64 a1_4) := (blk_cell BK169.out 4).trans rfl
     have hcz63_5 : w58.cell? ⟨gb169, 5, none⟩ = some (.int .u64 a1_5) := (blk_cell BK169.out 5).trans rfl
     have hcz63_6 : w58.cell? ⟨gb169, 6, none⟩ = some (.bool a1_6) := (blk_cell BK169.out 6).trans rfl
     have hfz63_0 := blk_frozen BK169.out 0
     have hfz63_1 := blk_frozen BK169.out 1
     have hfz63_2 := blk_frozen BK169.out 2
     have hfz63_3 := blk_frozen BK169.out 3
     have hfz63_4 := blk_frozen BK169.out 4
     have hfz63_5 := blk_frozen BK169.out 5
     have hfz63_6 := blk_frozen BK169.out 6
     try go_wp2
     go_loopg [60] kj4 (fun kq v60 w' => ∃ (x60_2 : Int) (x184000_2 : List Int) (u184000 : Value), v60 = .int .i64 x60_2 ∧ Aside0 (ledger_way_both_f24.l0 kq (l1_0.length : Int) x60_2 l1_0 a1_1 a1_2 a1_3 a1_4 a1_5 a1_6 l2_0 a2_1 a2_2 a2_3 a2_4 a2_5 a2_6 x184000_2 t174 t179 t180 t181 t182 false = some (r1, r2, r3, r4, r5, r6, r7, r8)) ∧ Aside0 (kq ≤ kj4) ∧ Aside0 (Kd.R (Kd.int .i64) 3 w' w.heap.size (fun _ => True) u184000 x184000_2) ∧ Aside0 (w'.heap[gb168]? = some (.cells #[.func (.func 24) #[] #[], .func (.func 25) #[] #[]] 45 (0, 0))) ∧ Aside0 (w'.heap[gb169]? = some (.cells #[(.slice A1_0 l1_0.length c1_0), .int .i64 a1_1, .int .u64 a1_2, .int .u64 a1_3, .int .u64 a1_4, .int .u64 a1_5, .bool a1_6] 48 (0, 0))) ∧ Aside0 (w'.heap[gb170]? = some (.cells #[(.slice A2_0 l2_0.length c2_0), .int .i64 a2_1, .int .u64 a2_2, .int .u64 a2_3, .int .u64 a2_4, .int .u64 a2_5, .bool a2_6] 48 (0, 0))) ∧ Aside0 (w'.heap[gb171]? = some (.cells #[(.slice none 0 0), .int .i64 0, .int .u64 0, .int .u64 0, .int .u64 0, .int .u64 0, .bool false] 27 (0, 0))) ∧ Aside0 (w'.heap[gb183]? = some (.cells #[u184000, .int .i64 t174, .int .u64 t179, .int .u64 t180, .int .u64 t181, .int .u64 t182, .bool false] 48 (0, 0))) ∧ Aside0 (Below w.heap.size w w'))
     case atStart => exact ⟨(0), (([] : List Int)), (.slice none 0 0), (by first | rfl | (simp; done) | (simp [*]; done)), H', ⟨Nat.le_refl _⟩, ⟨by first | exact Kd.R_nil _ _ _ _ _ | exact Kd.N_nil _ _ _ _ _ | exact Kd.V_nil _ _ _ _ _ | exact Kd.Q_nil _ _ _ _ _ | exact Kd.S_nil _ _ _ _ _⟩, ⟨by (with_reducible repeat (first | refine blk_drewN ?_ _ | refine blk_drew ?_ | refine blk_alloc ?_ _)); exact BK168.out⟩, ⟨by (with_reducible repeat (first | refine blk_drewN ?_ _ | refine blk_drew ?_ | refine blk_alloc ?_ _)); exact BK169.out⟩, ⟨by (with_reducible repeat (first | refine blk_drewN ?_ _ | refine blk_drew ?_ | refine blk_alloc ?_ _)); exact BK170.out⟩, ⟨by (with_reducible repeat (first | refine blk_drewN ?_ _ | refine blk_drew ?_ | refine blk_alloc ?_ _)); exact BK171.out⟩, ⟨by (with_reducible repeat (first | refine blk_drewN ?_ _ | refine blk_drew ?_ | refine blk_alloc ?_ _)); exact BK183.out⟩, ⟨by repeat (first | (with_reducible first | exact HB.out | apply below_alloc | apply pw_below_drewN | apply below_drew1 | refine below_set ?_ GE168.out | refine below_set ?_ GE169.out | refine below_set ?_ GE170.out | refine below_set ?_ GE171.out | refine below_set ?_ GE183.out) | exact HB.out)⟩⟩
     case round =>
      clear H'
      try clear c1
      try clear c2
      try clear p2
      try clear c3
      try clear c4
      try clear c5
      try clear c6
      try clear c24
      try clear c25
      try clear c32
      try clear c59
      try clear c60
      try clear c61
      try clear c62
      try clear hcz63_0
      try clear hcz63_1
      try clear hcz63_2
      try clear hcz63_3
      try clear hcz63_4
      try clear hcz63_5
      try clear hcz63_6
      try clear hfz63_0
      try clear hfz63_1
      try clear hfz63_2
      try clear hfz63_3
      try clear hfz63_4
      try clear hfz63_5
      try clear hfz63_6
      obtain ⟨x60_2, x184000_2, u184000, rfl, HA, HK2, HO_184000, BK168, BK169, BK170, BK171, BK183, HB⟩ := hrel
      cases gk with
      | zero => exact absurd HA.out (by simp [ledger_way_both_f24.l0])
      | succ k2 =>
       have H := HA.out
       clear HA
       simp only [ledger_way_both_f24.l0] at H
       by_cases c64 : x60_2 < (l1_0.length : Int)
       ·
        rw [if_pos c64] at H
        have c64b0 : decide (x60_2 < (l1_0.length : Int)) = true := decide_eq_true c64
        clear c64
        by_cases c65 : 0 ≤ x60_2
        ·
         rw [if_pos c65] at H
         have c65b0 : decide (0 ≤ x60_2) = true := decide_eq_true c65
         clear c65
         by_cases c66 : x60_2 < (l1_0.length : Int)
         ·
          rw [if_pos c66] at H
          have c66b0 : decide (x60_2 < (l1_0.length : Int)) = true := decide_eq_true c66
          clear c66
          by_cases c67 : x60_2 < (l2_0.length : Int)
          ·
           rw [if_pos c67] at H
           have c67b0 : decide (x60_2 < (l2_0.length : Int)) = true := decide_eq_true c67
           clear c67
           replace H := Option.bind_eq_some_iff.mp H
           obtain ⟨t186, A680, H⟩ := H
           replace H : (if x184000_2.length < 17592186044416 then (ledger_way_both_f24.l0 k2 (l1_0.length : Int) (wrap64 (x60_2 + 1)) l1_0 a1_1 a1_2 a1_3 a1_4 a1_5 a1_6 l2_0 a2_1 a2_2 a2_3 a2_4 a2_5 a2_6 (x184000_2 ++ [t186]) t174 t179 t180 t181 t182 false) else (none)) = some (r1, r2, r3, r4, r5, r6, r7, r8) := H
           have A68 := Aside0.mk A680
           clear A680
           by_cases c69 : x184000_2.length < 17592186044416
           ·
            rw [if_pos c69] at H
            have LMc69 := Aside0.mk c69
            clear c69
            obtain ⟨y187, hy187⟩ : ∃ y_ : List Int, y_ = (x184000_2 ++ [t186]) := ⟨_, rfl⟩
            replace H : (ledger_way_both_f24.l0 k2 (l1_0.length : Int) (wrap64 (x60_2 + 1)) l1_0 a1_1 a1_2 a1_3 a1_4 a1_5 a1_6 l2_0 a2_1 a2_2 a2_3 a2_4 a2_5 a2_6 y187 t174 t179 t180 t181 t182 false) = some (r1, r2, r3, r4, r5, r6, r7, r8) := by first | (rw [hy187]; with_reducible exact H) | (have H2_ := (Option.bind_some _ _).symm.trans H; rw [hy187]; with_reducible exact H2_) | (have H2_ := (Option.bind_some _ _).symm.trans H; with_reducible exact H2_) | with_reducible exact H | (rw [hy187]; exact H) | exact H
            have Ny187 := Aside0.mk hy187
            clear hy187
            have H' := Aside0.mk H
            clear H
            try go_wp2
            have n0_ := Aside0.mk (Kd.R_drew HO_184000.out)
            have n1_ := Aside0.mk (blk_drew BK168.out)
            have n2_ := Aside0.mk (blk_drew BK169.out)
            have n3_ := Aside0.mk (blk_drew BK170.out)
            have n4_ := Aside0.mk (blk_drew BK171.out)
            have n5_ := Aside0.mk (blk_drew BK183.out)
            have n6_ := Aside0.mk (below_drew1 HB.out)
            clear HO_184000
            clear BK168
            clear BK169
            clear BK170
            clear BK171
            clear BK183
            clear HB
            have HO_184000 := n0_
            have BK168 := n1_
            have BK169 := n2_
            have BK170 := n3_
            have BK171 := n4_
            have BK183 := n5_
            have HB := n6_
            clear n0_ n1_ n2_ n3_ n4_ n5_ n6_
            have p184 : 0 ≤ (x60_2 : Int) := of_decide_eq_true (by first | (with_reducible assumption) | assumption)
            have q184 : x60_2 < (l1_0.length : Int) := of_decide_eq_true (by first | (with_reducible assumption) | assumption)
            obtain ⟨ad184, e184, hx184_0⟩ := Kd.at_int HR1_0.out x60_2 p184 q184
            have hw184_0 := hx184_0
            cases e184
            replace hx184_0 := (HB.out.cell (World.block_lt_of_cell? w _ hx184_0)).trans hx184_0
            replace p184 := eq_true p184
            replace q184 := eq_true q184
            have p185 : 0 ≤ (x60_2 : Int) := of_decide_eq_true (by first | (with_reducible assumption) | assumption)
            have q185 : x60_2 < (l2_0.length : Int) := of_decide_eq_true (by first | (with_reducible assumption) | assumption)
            obtain ⟨ad185, e185, hx185_0⟩ := Kd.at_int HR2_0.out x60_2 p185 q185
            have hw185_0 := hx185_0
            cases e185
            replace hx185_0 := (HB.out.cell (World.block_lt_of_cell? w _ hx185_0)).trans hx185_0
            replace p185 := eq_true p185
            replace q185 := eq_true q185
            refine start_ (n := 23) (S := fun w' => w'.cell? ⟨gb183, 0, none⟩ = some (u184000) ∧ w'.cell? ⟨gb183, 1, none⟩ = some (.int .i64 t174) ∧ w'.cell? ⟨gb183, 2, none⟩ = some (.int .u64 t179) ∧ w'.cell? ⟨gb183, 3, none⟩ = some (.int .u64 t180) ∧ w'.cell? ⟨gb183, 4, none⟩ = some (.int .u64 t181) ∧ w'.cell? ⟨gb183, 5, none⟩ = some (.int .u64 t182) ∧ w'.cell? ⟨gb183, 6, none⟩ = some (.bool false) ∧ w'.cell? ⟨gb168, 0, none⟩ = some (.func (.func 24) #[] #[]) ∧ w'.cell? ⟨gb168, 1, none⟩ = some (.func (.func 25) #[] #[]) ∧ w'.cell? ⟨gb169, 0, none⟩ = some (.slice (some ad184) l1_0.length c1_0) ∧ w'.cell? ⟨gb169, 1, none⟩ = some (.int .i64 a1_1) ∧ w'.cell? ⟨gb169, 2, none⟩ = some (.int .u64 a1_2) ∧ w'.cell? ⟨gb169, 3, none⟩ = some (.int .u64 a1_3) ∧ w'.cell? ⟨gb169, 4, none⟩ = some (.int .u64 a1_4) ∧ w'.cell? ⟨gb169, 5, none⟩ = some (.int .u64 a1_5) ∧ w'.cell? ⟨gb169, 6, none⟩ = some (.bool a1_6) ∧ w'.cell? ⟨gb170, 0, none⟩ = some (.slice (some ad185) l2_0.length c2_0) ∧ w'.cell? ⟨gb170, 1, none⟩ = some (.int .i64 a2_1) ∧ w'.cell? ⟨gb170, 2, none⟩ = some (.int .u64 a2_2) ∧ w'.cell? ⟨gb170, 3, none⟩ = some (.int .u64 a2_3) ∧ w'.cell? ⟨gb170, 4, none⟩ = some (.int .u64 a2_4) ∧ w'.cell? ⟨gb170, 5, none⟩ = some (.int .u64 a2_5) ∧ w'.cell? ⟨gb170, 6, none⟩ = some (.bool a2_6) ∧ w'.cell? (ad184.add (x60_2).toNat) = some (.int .i64 (rd l1_0 x60_2)) ∧ w'.cell? (ad185.add (x60_2).toNat) = some (.int .i64 (rd l2_0 x60_2))) (ds := [22]) #[F, F, F, F, F, F, F, F, F, F, F, F, F, F, F, F, F, F, F, F, F, F, F] (by kernel_rfl) rfl rfl ⟨(blk_cell BK183.out 0).trans rfl, (blk_cell BK183.out 1).trans rfl, (blk_cell BK183.out 2).trans rfl, (blk_cell BK183.out 3).trans rfl, (blk_cell BK183.out 4).trans rfl, (blk_cell BK183.out 5).trans rfl, (blk_cell BK183.out 6).trans rfl, (blk_cell BK168.out 0).trans rfl, (blk_cell BK168.out 1).trans rfl, (blk_cell BK169.out 0).trans rfl, (blk_cell BK169.out 1).trans rfl, (blk_cell BK169.out 2).trans rfl, (blk_cell BK169.out 3).trans rfl, (blk_cell BK169.out 4).trans rfl, (blk_cell BK169.out 5).trans rfl, (blk_cell BK169.out 6).trans rfl, (blk_cell BK170.out 0).trans rfl, (blk_cell BK170.out 1).trans rfl, (blk_cell BK170.out 2).trans rfl, (blk_cell BK170.out 3).trans rfl, (blk_cell BK170.out 4).trans rfl, (blk_cell BK170.out 5).trans rfl, (blk_cell BK170.out 6).trans rfl, ((HB.out.cell (World.block_lt_of_cell? w _ hw184_0)).trans hw184_0), ((HB.out.cell (World.block_lt_of_cell? w _ hw185_0)).trans hw185_0)⟩ (fun hHeld => ?_); refine with_tabW ledger_way_both_f24.tab9 ledger_way_both_f24.bits9 (fun HT_ HW_ => ?_)
            generalize wr.drew = w70 at HO_184000 BK168 BK169 BK170 BK171 BK183 HB hx184_0 hx185_0 hHeld ⊢
            refine pure_ (i := 0) (N := some 63) (v := ?_) (a' := ?_) #[T, F, F, F, F, F, F, F, F, F, F, F, F, F, F, F, F, F, F, F, F, F, F] rfl rfl (any_of HT_.out (by kernel_rfl)) (fun _ _ _ h => h) (Or.inl ⟨by rfl, ?_⟩) ?_ ?_
            rotate_left
            ·
             intro w'
             (try simp only [add_plain] at s0 s1 s2 s3 s4 s5 s6 s7 s8 s9 s10 s11 s12 s13 s14 s15 s16 s17 s18 s19 s20 s21 s22 s23 s24)
             go_simp
             with_reducible rfl
            rotate_left
            ·
             simp only [Act.put, List.setIfInBounds_toArray, List.set_cons_zero, List.set_cons_succ, i64_w, i32_w]
             rfl
            refine pure_ (i := 1) (N := some 64) (v := ?_) (a' := ?_) #[T, T, F, F, F, F, F, F, F, F, F, F, F, F, F, F, F, F, F, F, F, F, F] rfl rfl (any_of HT_.out (by kernel_rfl)) (fun _ _ _ h => h) (Or.inl ⟨by rfl, ?_⟩) ?_ ?_
            rotate_left
            ·
             intro w'
             (try simp only [add_plain] at s0 s1 s2 s3 s4 s5 s6 s7 s8 s9 s10 s11 s12 s13 s14 s15 s16 s17 s18 s19 s20 s21 s22 s23 s24)
             go_simp
             with_reducible rfl
            rotate_left
            ·
             simp only [Act.put, List.setIfInBounds_toArray, List.set_cons_zero, List.set_cons_succ, i64_w, i32_w]
             rfl
            refine pure_ (i := 3) (N := some 66) (v := ?_) (a' := ?_) #[T, T, F, T, F, F, F, F, F, F, F, F, F, F, F, F, F, F, F, F, F, F, F] rfl rfl (any_of HT_.out (by kernel_rfl)) (fun _ _ _ h => h) (Or.inl ⟨by rfl, ?_⟩) ?_ ?_
            rotate_left
            ·
             intro w'
             (try simp only [add_plain] at s0 s1 s2 s3 s4 s5 s6 s7 s8 s9 s10 s11 s12 s13 s14 s15 s16 s17 s18 s19 s20 s21 s22 s23 s24)
             go_simp
             with_reducible rfl
            rotate_left
            ·
             simp only [Act.put, List.setIfInBounds_toArray, List.set_cons_zero, List.set_cons_succ, i64_w, i32_w]
             rfl
            refine pure_ (i := 5) (N := some 68) (v := ?_) (a' := ?_) #[T, T, F, T, F, T, F, F, F, F, F, F, F, F, F, F, F, F, F, F, F, F, F] rfl rfl (any_of HT_.out (by kernel_rfl)) (fun _ _ _ h => h) (Or.inl ⟨by rfl, ?_⟩) ?_ ?_
            rotate_left
            ·
             intro w'
             (try simp only [add_plain] at s0 s1 s2 s3 s4 s5 s6 s7 s8 s9 s10 s11 s12 s13 s14 s15 s16 s17 s18 s19 s20 s21 s22 s23 s24)
             go_simp
             with_reducible rfl
            rotate_left
            ·
             simp only [Act.put, List.setIfInBounds_toArray, List.set_cons_zero, List.set_cons_succ, i64_w, i32_w]
             rfl
            refine pure_ (i := 6) (N := some 69) (v := ?_) (a' := ?_) #[T, T, F, T, F, T, T, F, F, F, F, F, F, F, F, F, F, F, F, F, F, F, F] rfl rfl (any_of HT_.out (by kernel_rfl)) (fun _ _ _ h => h) (Or.inl ⟨by rfl, ?_⟩) ?_ ?_
            rotate_left
            ·
             intro w'
             (try simp only [add_plain] at s0 s1 s2 s3 s4 s5 s6 s7 s8 s9 s10 s11 s12 s13 s14 s15 s16 s17 s18 s19 s20 s21 s22 s23 s24)
             go_simp
             with_reducible rfl
            rotate_left
            ·
             simp only [Act.put, List.setIfInBounds_toArray, List.set_cons_zero, List.set_cons_succ, i64_w, i32_w]
             rfl
            refine pure_ (i := 8) (N := some 71) (v := ?_) (a' := ?_) #[T, T, F, T, F, T, T, F, T, F, F, F, F, F, F, F, F, F, F, F, F, F, F] rfl rfl (any_of HT_.out (by kernel_rfl)) (fun _ _ _ h => h) (Or.inl ⟨by rfl, ?_⟩) ?_ ?_
            rotate_left
            ·
             intro w'
             (try simp only [add_plain] at s0 s1 s2 s3 s4 s5 s6 s7 s8 s9 s10 s11 s12 s13 s14 s15 s16 s17 s18 s19 s20 s21 s22 s23 s24)
             go_simp
             with_reducible rfl
            rotate_left
            ·
             simp only [Act.put, List.setIfInBounds_toArray, List.set_cons_zero, List.set_cons_succ, i64_w, i32_w]
             rfl
            refine pure_ (i := 11) (N := some 74) (v := ?_) (a' := ?_) #[T, T, F, T, F, T, T, F, T, F, F, T, F, F, F, F, F, F, F, F, F, F, F] rfl rfl (any_of HT_.out (by kernel_rfl)) (fun _ _ _ h => h) (Or.inl ⟨by rfl, ?_⟩) ?_ ?_
            rotate_left
            ·
             intro w'
             (try simp only [add_plain] at s0 s1 s2 s3 s4 s5 s6 s7 s8 s9 s10 s11 s12 s13 s14 s15 s16 s17 s18 s19 s20 s21 s22 s23 s24)
             go_simp
             with_reducible rfl
            rotate_left
            ·
             simp only [Act.put, List.setIfInBounds_toArray, List.set_cons_zero, List.set_cons_succ, i64_w, i32_w]
             rfl
            refine pure_ (i := 12) (N := some 75) (v := ?_) (a' := ?_) #[T, T, F, T, F, T, T, F, T, F, F, T, T, F, F, F, F, F, F, F, F, F, F] rfl rfl (any_of HT_.out (by kernel_rfl)) (fun _ _ _ h => h) (Or.inl ⟨by rfl, ?_⟩) ?_ ?_
            rotate_left
            ·
             intro w'
             (try simp only [add_plain] at s0 s1 s2 s3 s4 s5 s6 s7 s8 s9 s10 s11 s12 s13 s14 s15 s16 s17 s18 s19 s20 s21 s22 s23 s24)
             go_simp
             with_reducible rfl
            rotate_left
            ·
             simp only [Act.put, List.setIfInBounds_toArray, List.set_cons_zero, List.set_cons_succ, i64_w, i32_w]
             rfl
            refine pure_ (i := 14) (N := some 77) (v := ?_) (a' := ?_) #[T, T, F, T, F, T, T, F, T, F, F, T, T, F, T, F, F, F, F, F, F, F, F] rfl rfl (any_of HT_.out (by kernel_rfl)) (fun _ _ _ h => h) (Or.inl ⟨by rfl, ?_⟩) ?_ ?_
            rotate_left
            ·
             intro w'
             (try simp only [add_plain] at s0 s1 s2 s3 s4 s5 s6 s7 s8 s9 s10 s11 s12 s13 s14 s15 s16 s17 s18 s19 s20 s21 s22 s23 s24)
             go_simp
             with_reducible rfl
            rotate_left
            ·
             simp only [Act.put, List.setIfInBounds_toArray, List.set_cons_zero, List.set_cons_succ, i64_w, i32_w]
             rfl
            refine take_ (i := 2) (N := some 65) (v := ?_) (a' := ?_) #[T, T, T, T, F, T, T, F, T, F, F, T, T, F, T, F, F, F, F, F, F, F, F] rfl rfl (take_ofW HT_.out HW_.out (by kernel_rfl)) (fun _ _ _ h => h) (Or.inl ⟨by rfl, ?_⟩) hHeld ?_ ?_
            rotate_left
            ·
             rintro w' ⟨s0, s1, s2, s3, s4, s5, s6, s7, s8, s9, s10, s11, s12, s13, s14, s15, s16, s17, s18, s19, s20, s21, s22, s23, s24⟩
             (try simp only [add_plain] at s0 s1 s2 s3 s4 s5 s6 s7 s8 s9 s10 s11 s12 s13 s14 s15 s16 s17 s18 s19 s20 s21 s22 s23 s24)
             go_simp
             with_reducible rfl
            rotate_left
            ·
             simp only [Act.put, List.setIfInBounds_toArray, List.set_cons_zero, List.set_cons_succ, i64_w, i32_w]
             rfl
            refine take_ (i := 4) (N := some 67) (v := ?_) (a' := ?_) #[T, T, T, T, T, T, T, F, T, F, F, T, T, F, T, F, F, F, F, F, F, F, F] rfl rfl (take_ofW HT_.out HW_.out (by kernel_rfl)) (fun _ _ _ h => h) (Or.inl ⟨by rfl, ?_⟩) hHeld ?_ ?_
            rotate_left
            ·
             rintro w' ⟨s0, s1, s2, s3, s4, s5, s6, s7, s8, s9, s10, s11, s12, s13, s14, s15, s16, s17, s18, s19, s20, s21, s22, s23, s24⟩
             (try simp only [add_plain] at s0 s1 s2 s3 s4 s5 s6 s7 s8 s9 s10 s11 s12 s13 s14 s15 s16 s17 s18 s19 s20 s21 s22 s23 s24)
             go_simp
             with_reducible rfl
            rotate_left
            ·
             simp only [Act.put, List.setIfInBounds_toArray, List.set_cons_zero, List.set_cons_succ, i64_w, i32_w]
             rfl
            refine take_ (i := 7) (N := some 70) (v := ?_) (a' := ?_) #[T, T, T, T, T, T, T, T, T, F, F, T, T, F, T, F, F, F, F, F, F, F, F] rfl rfl (take_ofW HT_.out HW_.out (by kernel_rfl)) (fun _ _ _ h => h) (Or.inl ⟨by rfl, ?_⟩) hHeld ?_ ?_
            rotate_left
            ·
             rintro w' ⟨s0, s1, s2, s3, s4, s5, s6, s7, s8, s9, s10, s11, s12, s13, s14, s15, s16, s17, s18, s19, s20, s21, s22, s23, s24⟩
             (try simp only [add_plain] at s0 s1 s2 s3 s4 s5 s6 s7 s8 s9 s10 s11 s12 s13 s14 s15 s16 s17 s18 s19 s20 s21 s22 s23 s24)
             go_simp
             with_reducible rfl
            rotate_left
            ·
             simp only [Act.put, List.setIfInBounds_toArray, List.set_cons_zero, List.set_cons_succ, i64_w, i32_w]
             rfl
            refine pure_ (i := 9) (N := some 72) (v := ?_) (a' := ?_) #[T, T, T, T, T, T, T, T, T, T, F, T, T, F, T, F, F, F, F, F, F, F, F] rfl rfl (any_of HT_.out (by kernel_rfl)) (fun _ _ _ h => h) (Or.inl ⟨by rfl, ?_⟩) ?_ ?_
            rotate_left
            ·
             intro w'
             (try simp only [add_plain] at s0 s1 s2 s3 s4 s5 s6 s7 s8 s9 s10 s11 s12 s13 s14 s15 s16 s17 s18 s19 s20 s21 s22 s23 s24)
             go_simp
             with_reducible rfl
            rotate_left
            ·
             simp only [Act.put, List.setIfInBounds_toArray, List.set_cons_zero, List.set_cons_succ, i64_w, i32_w]
             rfl
            refine take_ (i := 10) (N := some 73) (v := ?_) (a' := ?_) #[T, T, T, T, T, T, T, T, T, T, T, T, T, F, T, F, F, F, F, F, F, F, F] rfl rfl (take_ofW HT_.out HW_.out (by kernel_rfl)) (fun _ _ _ h => h) (Or.inl ⟨by rfl, ?_⟩) hHeld ?_ ?_
            rotate_left
            ·
             rintro w' ⟨s0, s1, s2, s3, s4, s5, s6, s7, s8, s9, s10, s11, s12, s13, s14, s15, s16, s17, s18, s19, s20, s21, s22, s23, s24⟩
             (try simp only [add_plain] at s0 s1 s2 s3 s4 s5 s6 s7 s8 s9 s10 s11 s12 s13 s14 s15 s16 s17 s18 s19 s20 s21 s22 s23 s24)
             go_simp
             with_reducible rfl
            rotate_left
            ·
             simp only [Act.put, List.setIfInBounds_toArray, List.set_cons_zero, List.set_cons_succ, i64_w, i32_w]
             rfl
            refine take_ (i := 13) (N := some 76) (v := ?_) (a' := ?_) #[T, T, T, T, T, T, T, T, T, T, T, T, T, T, T, F, F, F, F, F, F, F, F] rfl rfl (take_ofW HT_.out HW_.out (by kernel_rfl)) (fun _ _ _ h => h) (Or.inl ⟨by rfl, ?_⟩) hHeld ?_ ?_
            rotate_left
            ·
             rintro w' ⟨s0, s1, s2, s3, s4, s5, s6, s7, s8, s9, s10, s11, s12, s13, s14, s15, s16, s17, s18, s19, s20, s21, s22, s23, s24⟩
             (try simp only [add_plain] at s0 s1 s2 s3 s4 s5 s6 s7 s8 s9 s10 s11 s12 s13 s14 s15 s16 s17 s18 s19 s20 s21 s22 s23 s24)
             go_simp
             with_reducible rfl
            rotate_left
            ·
             simp only [Act.put, List.setIfInBounds_toArray, List.set_cons_zero, List.set_cons_succ, i64_w, i32_w]
             rfl
            refine pure_ (i := 15) (N := some 78) (v := ?_) (a' := ?_) #[T, T, T, T, T, T, T, T, T, T, T, T, T, T, T, T, F, F, F, F, F, F, F] rfl rfl (any_of HT_.out (by kernel_rfl)) (fun _ _ _ h => h) (Or.inl ⟨by rfl, ?_⟩) ?_ ?_
            rotate_left
            ·
             intro w'
             (try simp only [add_plain] at s0 s1 s2 s3 s4 s5 s6 s7 s8 s9 s10 s11 s12 s13 s14 s15 s16 s17 s18 s19 s20 s21 s22 s23 s24)
             go_simp
             with_reducible rfl
            rotate_left
            ·
             simp only [Act.put, List.setIfInBounds_toArray, List.set_cons_zero, List.set_cons_succ, i64_w, i32_w]
             rfl
            refine take_ (i := 16) (N := some 79) (v := ?_) (a' := ?_) #[T, T, T, T, T, T, T, T, T, T, T, T, T, T, T, T, T, F, F, F, F, F, F] rfl rfl (take_ofW HT_.out HW_.out (by kernel_rfl)) (fun _ _ _ h => h) (Or.inl ⟨by rfl, ?_⟩) hHeld ?_ ?_
            rotate_left
            ·
             rintro w' ⟨s0, s1, s2, s3, s4, s5, s6, s7, s8, s9, s10, s11, s12, s13, s14, s15, s16, s17, s18, s19, s20, s21, s22, s23, s24⟩
             (try simp only [add_plain] at s0 s1 s2 s3 s4 s5 s6 s7 s8 s9 s10 s11 s12 s13 s14 s15 s16 s17 s18 s19 s20 s21 s22 s23 s24)
             go_simp
             with_reducible rfl
            rotate_left
            ·
             simp only [Act.put, List.setIfInBounds_toArray, List.set_cons_zero, List.set_cons_succ, i64_w, i32_w]
             rfl
            refine one_ (i := 17) (N := some 80) #[T, T, T, T, T, T, T, T, T, T, T, T, T, T, T, T, T, T, F, F, F, F, F] rfl rfl (one_of HT_.out (by kernel_rfl)) (by decide) (fun K hK => ?_)
            refine goesT_ Try.func24 (by kernel_rfl) rfl #[.int .i64 (rd l1_0 x60_2), .int .i64 (rd l2_0 x60_2)] (by rfl) rfl rfl (by first | rfl | (go_simp; done)) (by (try simp only [List.map_toArray, List.map_cons, List.map_nil]); first | done | rfl | (simp only [List.length_drop, List.length_take]; rfl)) ?_
            with_reducible refine (ledger_minus.calls (rd l1_0 x60_2) (rd l2_0 x60_2) t186 _ A68.out).mono ?_
            rintro e w71 ⟨rfl, hb⟩
            refine ⟨_, rfl, ?_⟩
            have n0_ := Aside0.mk (Kd.R_below (by (with_reducible repeat (first | apply Kd.R_alloc | apply Kd.R_drewN | apply Kd.R_drew)); exact HO_184000.out) hb)
            have n1_ := ledger_way_both_f24.keepB BK168 hb
            have n2_ := ledger_way_both_f24.keepB BK169 hb
            have n3_ := ledger_way_both_f24.keepB BK170 hb
            have n4_ := ledger_way_both_f24.keepB BK171 hb
            have n5_ := ledger_way_both_f24.keepB BK183 hb
            have n6_ := Aside0.mk (below_step (by repeat (first | (with_reducible first | exact HB.out | apply below_alloc | apply pw_below_drewN | apply below_drew1 | refine below_set ?_ GE168.out | refine below_set ?_ GE169.out | refine below_set ?_ GE170.out | refine below_set ?_ GE171.out | refine below_set ?_ GE183.out) | exact HB.out)) hb)
            clear HO_184000
            clear BK168
            clear BK169
            clear BK170
            clear BK171
            clear BK183
            clear HB
            have HO_184000 := n0_
            have BK168 := n1_
            have BK169 := n2_
            have BK170 := n3_
            have BK171 := n4_
            have BK183 := n5_
            have HB := n6_
            clear n0_ n1_ n2_ n3_ n4_ n5_ n6_
            (try clear hb)
            (try clear hb2)
            (try clear hk)
            (try clear hi)
            refine hK.out _ _ ⟨(blk_cell BK183.out 0).trans rfl, (blk_cell BK183.out 1).trans rfl, (blk_cell BK183.out 2).trans rfl, (blk_cell BK183.out 3).trans rfl, (blk_cell BK183.out 4).trans rfl, (blk_cell BK183.out 5).trans rfl, (blk_cell BK183.out 6).trans rfl, (blk_cell BK168.out 0).trans rfl, (blk_cell BK168.out 1).trans rfl, (blk_cell BK169.out 0).trans rfl, (blk_cell BK169.out 1).trans rfl, (blk_cell BK169.out 2).trans rfl, (blk_cell BK169.out 3).trans rfl, (blk_cell BK169.out 4).trans rfl, (blk_cell BK169.out 5).trans rfl, (blk_cell BK169.out 6).trans rfl, (blk_cell BK170.out 0).trans rfl, (blk_cell BK170.out 1).trans rfl, (blk_cell BK170.out 2).trans rfl, (blk_cell BK170.out 3).trans rfl, (blk_cell BK170.out 4).trans rfl, (blk_cell BK170.out 5).trans rfl, (blk_cell BK170.out 6).trans rfl, ((HB.out.cell (World.block_lt_of_cell? w _ hw184_0)).trans hw184_0), ((HB.out.cell (World.block_lt_of_cell? w _ hw185_0)).trans hw185_0)⟩ (fun hHeld => ?_)
            clear hK K
            refine norm_ (a' := ?_) ?_ ?_
            rotate_left
            ·
             show Act.put _ (some 80) _ = _
             simp only [Act.put, List.setIfInBounds_toArray, List.set_cons_zero, List.set_cons_succ, i64_w, i32_w]
             rfl
            refine one_ (i := 18) (N := some 81) #[T, T, T, T, T, T, T, T, T, T, T, T, T, T, T, T, T, T, T, F, F, F, F] rfl rfl (one_of HT_.out (by kernel_rfl)) (by decide) (fun K hK => ?_)
            refine value_ (w1 := ?_) (v := ?_) (by rfl) rfl ?_ ?_
            rotate_left 2
            ·
             go_simp
             constructor
             ·
              rfl
             ·
              rfl
            refine hK.out _ _ ⟨(blk_cell (blk_alloc BK183.out _) 0).trans rfl, (blk_cell (blk_alloc BK183.out _) 1).trans rfl, (blk_cell (blk_alloc BK183.out _) 2).trans rfl, (blk_cell (blk_alloc BK183.out _) 3).trans rfl, (blk_cell (blk_alloc BK183.out _) 4).trans rfl, (blk_cell (blk_alloc BK183.out _) 5).trans rfl, (blk_cell (blk_alloc BK183.out _) 6).trans rfl, (blk_cell (blk_alloc BK168.out _) 0).trans rfl, (blk_cell (blk_alloc BK168.out _) 1).trans rfl, (blk_cell (blk_alloc BK169.out _) 0).trans rfl, (blk_cell (blk_alloc BK169.out _) 1).trans rfl, (blk_cell (blk_alloc BK169.out _) 2).trans rfl, (blk_cell (blk_alloc BK169.out _) 3).trans rfl, (blk_cell (blk_alloc BK169.out _) 4).trans rfl, (blk_cell (blk_alloc BK169.out _) 5).trans rfl, (blk_cell (blk_alloc BK169.out _) 6).trans rfl, (blk_cell (blk_alloc BK170.out _) 0).trans rfl, (blk_cell (blk_alloc BK170.out _) 1).trans rfl, (blk_cell (blk_alloc BK170.out _) 2).trans rfl, (blk_cell (blk_alloc BK170.out _) 3).trans rfl, (blk_cell (blk_alloc BK170.out _) 4).trans rfl, (blk_cell (blk_alloc BK170.out _) 5).trans rfl, (blk_cell (blk_alloc BK170.out _) 6).trans rfl, (World.cell?_alloc_lt _ _ _ (World.block_lt_of_cell? _ _ (((HB.out.cell (World.block_lt_of_cell? w _ hw184_0)).trans hw184_0)))).trans (((HB.out.cell (World.block_lt_of_cell? w _ hw184_0)).trans hw184_0)), (World.cell?_alloc_lt _ _ _ (World.block_lt_of_cell? _ _ (((HB.out.cell (World.block_lt_of_cell? w _ hw185_0)).trans hw185_0)))).trans (((HB.out.cell (World.block_lt_of_cell? w _ hw185_0)).trans hw185_0))⟩ (fun hHeld => ?_)
            clear hK K
            refine norm_ (a' := ?_) ?_ ?_
            rotate_left
            ·
             show Act.put _ (some 81) _ = _
             simp only [Act.put, List.setIfInBounds_toArray, List.set_cons_zero, List.set_cons_succ, i64_w, i32_w]
             rfl
            refine one_ (i := 19) (N := some 82) #[T, T, T, T, T, T, T, T, T, T, T, T, T, T, T, T, T, T, T, T, F, F, F] rfl rfl (one_of HT_.out (by kernel_rfl)) (by decide) (fun K hK => ?_)
            refine Kd.R_append_step (Kd.int .i64) (w0 := w) w.heap.size (by rfl) (.tmp 65) (.tmp 81) 22 3 (.int .i64 0) 8 rfl Try.underlying22 info3 rfl (by decide) (by omega) u184000 x184000_2 t186 [.int .i64 t186] (fun _ => True) (fun _ => False) rfl rfl ?aP (fun _ hk => hk.elim) ?aF ?aO ?aB ?aS ?aL ?_
            (case aP => exact rfl)
            (case aB => exact (by repeat (first | (with_reducible first | exact HB.out | apply below_alloc | apply pw_below_drewN | apply below_drew1 | refine below_set ?_ GE168.out | refine below_set ?_ GE169.out | refine below_set ?_ GE170.out | refine below_set ?_ GE171.out | refine below_set ?_ GE183.out) | exact HB.out)))
            (case aF => exact (fun _ _ => trivial))
            (case aO => exact (by (with_reducible repeat (first | apply Kd.R_alloc | apply Kd.R_drewN | apply Kd.R_drew)); exact HO_184000.out))
            (case aS => exact (below_size (by repeat (first | (with_reducible first | exact HB.out | apply below_alloc | apply pw_below_drewN | apply below_drew1 | refine below_set ?_ GE168.out | refine below_set ?_ GE169.out | refine below_set ?_ GE170.out | refine below_set ?_ GE171.out | refine below_set ?_ GE183.out) | exact HB.out))))
            (case aL => have := LMc69.out; omega)
            intro v188 w72 ho hb hg hat
            rw [← Ny187.out] at ho
            have n0_ := Aside0.mk (blk_grown (g := gb168) (o := .cells #[.func (.func 24) #[] #[], .func (.func 25) #[] #[]] 45 (0, 0)) (by (with_reducible repeat (first | refine blk_drewN ?_ _ | refine blk_drew ?_ | refine blk_alloc ?_ _)); exact BK168.out) hg (Kd.R_ne HO_184000.out BK168.out (by decide)))
            have n1_ := Aside0.mk (blk_grown (g := gb169) (o := .cells #[.slice (some ad184) l1_0.length c1_0, .int .i64 a1_1, .int .u64 a1_2, .int .u64 a1_3, .int .u64 a1_4, .int .u64 a1_5, .bool a1_6] 48 (0, 0)) (by (with_reducible repeat (first | refine blk_drewN ?_ _ | refine blk_drew ?_ | refine blk_alloc ?_ _)); exact BK169.out) hg (Kd.R_ne HO_184000.out BK169.out (by decide)))
            have n2_ := Aside0.mk (blk_grown (g := gb170) (o := .cells #[.slice (some ad185) l2_0.length c2_0, .int .i64 a2_1, .int .u64 a2_2, .int .u64 a2_3, .int .u64 a2_4, .int .u64 a2_5, .bool a2_6] 48 (0, 0)) (by (with_reducible repeat (first | refine blk_drewN ?_ _ | refine blk_drew ?_ | refine blk_alloc ?_ _)); exact BK170.out) hg (Kd.R_ne HO_184000.out BK170.out (by decide)))
            have n3_ := Aside0.mk (blk_grown (g := gb171) (o := .cells #[.slice none 0 0, .int .i64 0, .int .u64 0, .int .u64 0, .int .u64 0, .int .u64 0, .bool false] 27 (0, 0)) (by (with_reducible repeat (first | refine blk_drewN ?_ _ | refine blk_drew ?_ | refine blk_alloc ?_ _)); exact BK171.out) hg (Kd.R_ne HO_184000.out BK171.out (by decide)))
            have n4_ := Aside0.mk (blk_grown (g := gb183) (o := .cells #[u184000, .int .i64 t174, .int .u64 t179, .int .u64 t180, .int .u64 t181, .int .u64 t182, .bool false] 48 (0, 0)) (by (with_reducible repeat (first | refine blk_drewN ?_ _ | refine blk_drew ?_ | refine blk_alloc ?_ _)); exact BK183.out) hg (Kd.R_ne HO_184000.out BK183.out (by decide)))
            have n5_ := Aside0.mk (hb)
            have n6_ := Aside0.mk (ho)
            clear BK168
            clear BK169
            clear BK170
            clear BK171
            clear BK183
            clear HB
            clear HO_184000
            have BK168 := n0_
            have BK169 := n1_
            have BK170 := n2_
            have BK171 := n3_
            have BK183 := n4_
            have HB := n5_
            have HO189 := n6_
            clear n0_ n1_ n2_ n3_ n4_ n5_ n6_
            clear ho hb hg hat
            obtain ⟨Ao73, co73, eo73⟩ := Kd.R_slice HO189.out
            (first | subst eo73 | (injection eo73 with f1_ f2_ f3_; have f4_ := f1_.symm; have f5_ := f3_.symm; clear f1_ f2_ f3_; subst f4_; subst f5_))
            refine hK.out _ _ ⟨(blk_cell BK183.out 0).trans rfl, (blk_cell BK183.out 1).trans rfl, (blk_cell BK183.out 2).trans rfl, (blk_cell BK183.out 3).trans rfl, (blk_cell BK183.out 4).trans rfl, (blk_cell BK183.out 5).trans rfl, (blk_cell BK183.out 6).trans rfl, (blk_cell BK168.out 0).trans rfl, (blk_cell BK168.out 1).trans rfl, (blk_cell BK169.out 0).trans rfl, (blk_cell BK169.out 1).trans rfl, (blk_cell BK169.out 2).trans rfl, (blk_cell BK169.out 3).trans rfl, (blk_cell BK169.out 4).trans rfl, (blk_cell BK169.out 5).trans rfl, (blk_cell BK169.out 6).trans rfl, (blk_cell BK170.out 0).trans rfl, (blk_cell BK170.out 1).trans rfl, (blk_cell BK170.out 2).trans rfl, (blk_cell BK170.out 3).trans rfl, (blk_cell BK170.out 4).trans rfl, (blk_cell BK170.out 5).trans rfl, (blk_cell BK170.out 6).trans rfl, ((HB.out.cell (World.block_lt_of_cell? w _ hw184_0)).trans hw184_0), ((HB.out.cell (World.block_lt_of_cell? w _ hw185_0)).trans hw185_0)⟩ (fun hHeld => ?_)
            clear hK K
            refine norm_ (a' := ?_) ?_ ?_
            rotate_left
            ·
             show Act.put _ (some 82) _ = _
             simp only [Act.put, List.setIfInBounds_toArray, List.set_cons_zero, List.set_cons_succ, i64_w, i32_w]
             rfl
            refine pure_ (i := 20) (N := some 83) (v := ?_) (a' := ?_) #[T, T, T, T, T, T, T, T, T, T, T, T, T, T, T, T, T, T, T, T, T, F, F] rfl rfl (any_of HT_.out (by kernel_rfl)) (fun _ _ _ h => h) (Or.inl ⟨by rfl, ?_⟩) ?_ ?_
            rotate_left
            ·
             intro w'
             (try simp only [add_plain] at s0 s1 s2 s3 s4 s5 s6 s7 s8 s9 s10 s11 s12 s13 s14 s15 s16 s17 s18 s19 s20 s21 s22 s23 s24)
             go_simp
             with_reducible rfl
            rotate_left
            ·
             simp only [Act.put, List.setIfInBounds_toArray, List.set_cons_zero, List.set_cons_succ, i64_w, i32_w]
             rfl
            refine pure_ (i := 21) (N := some 84) (v := ?_) (a' := ?_) #[T, T, T, T, T, T, T, T, T, T, T, T, T, T, T, T, T, T, T, T, T, T, F] rfl rfl (any_of HT_.out (by kernel_rfl)) (fun _ _ _ h => h) (Or.inl ⟨by rfl, ?_⟩) ?_ ?_
            rotate_left
            ·
             intro w'
             (try simp only [add_plain] at s0 s1 s2 s3 s4 s5 s6 s7 s8 s9 s10 s11 s12 s13 s14 s15 s16 s17 s18 s19 s20 s21 s22 s23 s24)
             go_simp
             with_reducible rfl
            rotate_left
            ·
             simp only [Act.put, List.setIfInBounds_toArray, List.set_cons_zero, List.set_cons_succ, i64_w, i32_w]
             rfl
            refine last_ (i := 22) (N := none) #[T, T, T, T, T, T, T, T, T, T, T, T, T, T, T, T, T, T, T, T, T, T, T] rfl rfl (one_of HT_.out (by kernel_rfl)) (by decide) (fun K hK => ?_)
            have hs74 : w72.cell? ⟨gb183, 0, none⟩ = some (u184000) := (blk_cell BK183.out 0).trans rfl
            have hfs74 := blk_frozen BK183.out 0
            have hns74_0 := NB168_183.out
            have hns74_1 := NB169_183.out
            have hns74_2 := NB170_183.out
            have hns74_3 := NB171_183.out
            have hms74_0 := NB183_168.out
            have hms74_1 := NB183_169.out
            have hms74_2 := NB183_170.out
            have hms74_3 := NB183_171.out
            refine skip_ (w1 := ?_) ?_ ?_ ?_ ?_
            rotate_left
            · rfl
            · rfl
            ·
              go_simp
              rfl
            refine hK.out _ _ ?_
            clear hK K
            refine done_ (done_of HT_.out (by kernel_rfl)) ?_
            try go_wp2
            go_roundg k2
            case measure => have := HJ4.out; have := HK2.out; omega
            case rel => exact ⟨(wrap64 (x60_2 + 1)), (y187), (.slice Ao73 y187.length co73), (by first | rfl | (simp; done) | (simp [*]; done)), H', ⟨by have := HJ4.out; have := HK2.out; omega⟩, ⟨by (with_reducible repeat (first | apply Kd.R_alloc | apply Kd.R_drewN | apply Kd.R_drew)); exact Kd.R_mono (Kd.R_far (p := ⟨gb183, 0, none⟩) (Kd.R_types HO189.out BK183.out (by decide)) (fun _ hk => hk.2) (.slice Ao73 y187.length co73)) (fun _ hk => trivial)⟩, ⟨by (with_reducible repeat (first | refine blk_drewN ?_ _ | refine blk_drew ?_ | refine blk_alloc ?_ _)); refine blk_far ?_ NB168_183.out _; (with_reducible repeat (first | refine blk_drewN ?_ _ | refine blk_drew ?_ | refine blk_alloc ?_ _)); exact BK168.out⟩, ⟨by (with_reducible repeat (first | refine blk_drewN ?_ _ | refine blk_drew ?_ | refine blk_alloc ?_ _)); refine blk_far ?_ NB169_183.out _; (with_reducible repeat (first | refine blk_drewN ?_ _ | refine blk_drew ?_ | refine blk_alloc ?_ _)); exact BK169.out⟩, ⟨by (with_reducible repeat (first | refine blk_drewN ?_ _ | refine blk_drew ?_ | refine blk_alloc ?_ _)); refine blk_far ?_ NB170_183.out _; (with_reducible repeat (first | refine blk_drewN ?_ _ | refine blk_drew ?_ | refine blk_alloc ?_ _)); exact BK170.out⟩, ⟨by (with_reducible repeat (first | refine blk_drewN ?_ _ | refine blk_drew ?_ | refine blk_alloc ?_ _)); refine blk_far ?_ NB171_183.out _; (with_reducible repeat (first | refine blk_drewN ?_ _ | refine blk_drew ?_ | refine blk_alloc ?_ _)); exact BK171.out⟩, ⟨by (with_reducible repeat (first | refine blk_drewN ?_ _ | refine blk_drew ?_ | refine blk_alloc ?_ _)); refine blk_put (cs := #[u184000, .int .i64 t174, .int .u64 t179, .int .u64 t180, .int .u64 t181, .int .u64 t182, .bool false]) ?_ 0 _ rfl; (with_reducible repeat (first | refine blk_drewN ?_ _ | refine blk_drew ?_ | refine blk_alloc ?_ _)); exact BK183.out⟩, ⟨by repeat (first | (with_reducible first | exact HB.out | apply below_alloc | apply pw_below_drewN | apply below_drew1 | refine below_set ?_ GE168.out | refine below_set ?_ GE169.out | refine below_set ?_ GE170.out | refine below_set ?_ GE171.out | refine below_set ?_ GE183.out) | exact HB.out)⟩⟩
           ·
            rw [if_neg c69] at H
            exact absurd H (by simp)
          ·
           rw [if_neg c67] at H
           exact absurd H (by simp)
         ·
          rw [if_neg c66] at H
          exact absurd H (by simp)
        ·
         rw [if_neg c65] at H
         exact absurd H (by simp)
       ·
        rw [if_neg c64] at H
        have c64b0 : decide (x60_2 < (l1_0.length : Int)) = false := decide_eq_false c64
        clear c64
        replace H := Option.bind_eq_some_iff.mp H
        obtain ⟨t190, A750, H⟩ := H
        replace H : (if t190 = true then (if (t179 / 9223372036854775808) = 1 then ((wide_Neg.f t179 t180).bind fun bt191 => (some (x184000_2, t174, bt191.1, bt191.2, t181, t182, ((t179 / 9223372036854775808) == 1), 0))) else (some (x184000_2, t174, t179, t180, t181, t182, ((t179 / 9223372036854775808) == 1), 0))) else (some (([] : List Int), 0, 0, 0, 0, 0, false, 4))) = some (r1, r2, r3, r4, r5, r6, r7, r8) := H
        have A75 := Aside0.mk A750
        clear A750
        by_cases c76 : t190 = true
        ·
         subst c76
         have H1 : (if (t179 / 9223372036854775808) = 1 then ((wide_Neg.f t179 t180).bind fun bt191 => (some (x184000_2, t174, bt191.1, bt191.2, t181, t182, ((t179 / 9223372036854775808) == 1), 0))) else (some (x184000_2, t174, t179, t180, t181, t182, ((t179 / 9223372036854775808) == 1), 0))) = some (r1, r2, r3, r4, r5, r6, r7, r8) := by rw [if_pos rfl] at H; exact H
         clear H
         have H := H1
         clear H1
         by_cases c77 : (t179 / 9223372036854775808) = 1
         ·
          rw [if_pos c77] at H
          have c77b0 : ((t179 / 9223372036854775808) == 1) = true := beq_iff_eq.mpr c77
          (try rw [c77b0] at H)
          have c77b1 : ((t179 / 9223372036854775808) != 1) = false := bne_eq_false_iff_eq.mpr c77
          clear c77
          replace H := Option.bind_eq_some_iff.mp H
          obtain ⟨⟨t191, t192⟩, A780, H⟩ := H
          replace H : (some (x184000_2, t174, t191, t192, t181, t182, true, 0)) = some (r1, r2, r3, r4, r5, r6, r7, r8) := H
          have A78 := Aside0.mk A780
          clear A780
          simp only [Option.some.injEq, Prod.mk.injEq] at H
          obtain ⟨rfl, rfl, rfl, rfl, rfl, rfl, rfl, rfl⟩ := H
          have hnb79 := NB183_168.out
          have hnc79 := NB168_183.out
          have hnb80 := NB183_169.out
          have hnc80 := NB169_183.out
          have hnb81 := NB183_170.out
          have hnc81 := NB170_183.out
          have hnb82 := NB183_171.out
          have hnc82 := NB171_183.out
          have hcz83_0 : wr.cell? ⟨gb183, 0, none⟩ = some (u184000) := (blk_cell BK183.out 0).trans rfl
          have hcz83_1 : wr.cell? ⟨gb183, 1, none⟩ = some (.int .i64 t174) := (blk_cell BK183.out 1).trans rfl
          have hcz83_2 : wr.cell? ⟨gb183, 2, none⟩ = some (.int .u64 t179) := (blk_cell BK183.out 2).trans rfl
          have hcz83_3 : wr.cell? ⟨gb183, 3, none⟩ = some (.int .u64 t180) := (blk_cell BK183.out 3).trans rfl
          have hcz83_4 : wr.cell? ⟨gb183, 4, none⟩ = some (.int .u64 t181) := (blk_cell BK183.out 4).trans rfl
          have hcz83_5 : wr.cell? ⟨gb183, 5, none⟩ = some (.int .u64 t182) := (blk_cell BK183.out 5).trans rfl
          have hcz83_6 : wr.cell? ⟨gb183, 6, none⟩ = some (.bool false) := (blk_cell BK183.out 6).trans rfl
          have hfz83_0 := blk_frozen BK183.out 0
          have hfz83_1 := blk_frozen BK183.out 1
          have hfz83_2 := blk_frozen BK183.out 2
          have hfz83_3 := blk_frozen BK183.out 3
          have hfz83_4 := blk_frozen BK183.out 4
          have hfz83_5 := blk_frozen BK183.out 5
          have hfz83_6 := blk_frozen BK183.out 6
          obtain ⟨Ao84, co84, eo84⟩ := Kd.R_slice HO_184000.out
          subst eo84
          go_wp2_with (first | ((with_reducible refine gate_callee (f := 31) rfl ?_); refine goesL_ (some 87) rfl rfl Try.func31 (by kernel_rfl) rfl #[.agg #[.slice Ao84 x184000_2.length co84, .int .i64 t174, .int .u64 t179, .int .u64 t180, .int .u64 t181, .int .u64 t182, .bool false]] rfl (by (try simp only [List.map_toArray, List.map_cons, List.map_nil]); first | done | rfl | (simp only [List.length_drop, List.length_take]; rfl)) ?_; (with_reducible refine (ledger_entry_right.calls k2 _ _ x184000_2 t174 t179 t180 t181 t182 false true _ ?side1 ?side2 A75.out).mono ?_); (case side1 => repeat (first | exact (Kd.R_reads' HO_184000.out).2.2 | (with_reducible refine Kd.C_alloc ?_ _) | (with_reducible refine Kd.C_drewN ?_ _) | (with_reducible refine Kd.C_drew ?_))); (case side2 => exact (Kd.R_reads' HO_184000.out).2.1); rintro e w85 ⟨rfl, hb⟩; refine ⟨_, rfl, ?_⟩; have n0_ := Aside0.mk (Kd.R_below (by (with_reducible repeat (first | apply Kd.R_alloc | apply Kd.R_drewN | apply Kd.R_drew)); exact HO_184000.out) hb); have n1_ := ledger_way_both_f24.keepB BK168 hb; have n2_ := ledger_way_both_f24.keepB BK169 hb; have n3_ := ledger_way_both_f24.keepB BK170 hb; have n4_ := ledger_way_both_f24.keepB BK171 hb; have n5_ := ledger_way_both_f24.keepB BK183 hb; have n6_ := Aside0.mk (below_step (by repeat (first | (with_reducible first | exact HB.out | apply below_alloc | apply pw_below_drewN | apply below_drew1 | refine below_set ?_ GE168.out | refine below_set ?_ GE169.out | refine below_set ?_ GE170.out | refine below_set ?_ GE171.out | refine below_set ?_ GE183.out) | exact HB.out)) hb); clear HO_184000; clear BK168; clear BK169; clear BK170; clear BK171; clear BK183; clear HB; have HO_184000 := n0_; have BK168 := n1_; have BK169 := n2_; have BK170 := n3_; have BK171 := n4_; have BK183 := n5_; have HB := n6_; clear n0_ n1_ n2_ n3_ n4_ n5_ n6_; (try clear hb); (try clear hb2); (try clear hk); (try clear hi); have hcz86_0 : w85.cell? ⟨gb183, 0, none⟩ = some (.slice Ao84 x184000_2.length co84) := (blk_cell BK183.out 0).trans rfl; have hcz86_1 : w85.cell? ⟨gb183, 1, none⟩ = some (.int .i64 t174) := (blk_cell BK183.out 1).trans rfl; have hcz86_2 : w85.cell? ⟨gb183, 2, none⟩ = some (.int .u64 t179) := (blk_cell BK183.out 2).trans rfl; have hcz86_3 : w85.cell? ⟨gb183, 3, none⟩ = some (.int .u64 t180) := (blk_cell BK183.out 3).trans rfl; have hcz86_4 : w85.cell? ⟨gb183, 4, none⟩ = some (.int .u64 t181) := (blk_cell BK183.out 4).trans rfl; have hcz86_5 : w85.cell? ⟨gb183, 5, none⟩ = some (.int .u64 t182) := (blk_cell BK183.out 5).trans rfl; have hcz86_6 : w85.cell? ⟨gb183, 6, none⟩ = some (.bool false) := (blk_cell BK183.out 6).trans rfl; have hfz86_0 := blk_frozen BK183.out 0; have hfz86_1 := blk_frozen BK183.out 1; have hfz86_2 := blk_frozen BK183.out 2; have hfz86_3 := blk_frozen BK183.out 3; have hfz86_4 := blk_frozen BK183.out 4; have hfz86_5 := blk_frozen BK183.out 5; have hfz86_6 := blk_frozen BK183.out 6) | ((with_reducible refine gate_callee (f := 33) rfl ?_); refine goesL_ (some 104) rfl rfl Try.func33 (by kernel_rfl) rfl #[.agg #[.int .u64 t179, .int .u64 t180]] rfl (by (try simp only [List.map_toArray, List.map_cons, List.map_nil]); first | done | rfl | (simp only [List.length_drop, List.length_take]; rfl)) ?_; (with_reducible refine (wide_Neg.calls t179 t180 t191 t192 _ A78.out).mono ?_); rintro e w87 ⟨rfl, hb⟩; refine ⟨_, rfl, ?_⟩; have n0_ := Aside0.mk (Kd.R_below (by (with_reducible repeat (first | apply Kd.R_alloc | apply Kd.R_drewN | apply Kd.R_drew)); exact (Kd.R_mono (Kd.R_far (p := ⟨gb183, 6, none⟩) (Kd.R_types HO_184000.out BK183.out (by decide)) (fun _ hk => hk.2) (.bool true)) (fun _ h_ => h_.1))) hb); have n1_ := Aside0.mk (blk_below (g := gb168) (o := .cells #[.func (.func 24) #[] #[], .func (.func 25) #[] #[]] 45 (0, 0)) (by (with_reducible repeat (first | refine blk_drewN ?_ _ | refine blk_drew ?_ | refine blk_alloc ?_ _)); refine blk_far ?_ NB168_183.out _; (with_reducible repeat (first | refine blk_drewN ?_ _ | refine blk_drew ?_ | refine blk_alloc ?_ _)); exact BK168.out) hb); have n2_ := Aside0.mk (blk_below (g := gb169) (o := .cells #[.slice A1_0 l1_0.length c1_0, .int .i64 a1_1, .int .u64 a1_2, .int .u64 a1_3, .int .u64 a1_4, .int .u64 a1_5, .bool a1_6] 48 (0, 0)) (by (with_reducible repeat (first | refine blk_drewN ?_ _ | refine blk_drew ?_ | refine blk_alloc ?_ _)); refine blk_far ?_ NB169_183.out _; (with_reducible repeat (first | refine blk_drewN ?_ _ | refine blk_drew ?_ | refine blk_alloc ?_ _)); exact BK169.out) hb); have n3_ := Aside0.mk (blk_below (g := gb170) (o := .cells #[.slice A2_0 l2_0.length c2_0, .int .i64 a2_1, .int .u64 a2_2, .int .u64 a2_3, .int .u64 a2_4, .int .u64 a2_5, .bool a2_6] 48 (0, 0)) (by (with_reducible repeat (first | refine blk_drewN ?_ _ | refine blk_drew ?_ | refine blk_alloc ?_ _)); refine blk_far ?_ NB170_183.out _; (with_reducible repeat (first | refine blk_drewN ?_ _ | refine blk_drew ?_ | refine blk_alloc ?_ _)); exact BK170.out) hb); have n4_ := Aside0.mk (blk_below (g := gb171) (o := .cells #[.slice none 0 0, .int .i64 0, .int .u64 0, .int .u64 0, .int .u64 0, .int .u64 0, .bool false] 27 (0, 0)) (by (with_reducible repeat (first | refine blk_drewN ?_ _ | refine blk_drew ?_ | refine blk_alloc ?_ _)); refine blk_far ?_ NB171_183.out _; (with_reducible repeat (first | refine blk_drewN ?_ _ | refine blk_drew ?_ | refine blk_alloc ?_ _)); exact BK171.out) hb); have n5_ := Aside0.mk (blk_below (g := gb183) (o := .cells #[.slice Ao84 x184000_2.length co84, .int .i64 t174, .int .u64 t179, .int .u64 t180, .int .u64 t181, .int .u64 t182, .bool true] 48 (0, 0)) (by (with_reducible repeat (first | refine blk_drewN ?_ _ | refine blk_drew ?_ | refine blk_alloc ?_ _)); refine blk_put (cs := #[.slice Ao84 x184000_2.length co84, .int .i64 t174, .int .u64 t179, .int .u64 t180, .int .u64 t181, .int .u64 t182, .bool false]) ?_ 6 _ rfl; (with_reducible repeat (first | refine blk_drewN ?_ _ | refine blk_drew ?_ | refine blk_alloc ?_ _)); exact BK183.out) hb); have n6_ := Aside0.mk (below_step (by repeat (first | (with_reducible first | exact HB.out | apply below_alloc | apply pw_below_drewN | apply below_drew1 | refine below_set ?_ GE168.out | refine below_set ?_ GE169.out | refine below_set ?_ GE170.out | refine below_set ?_ GE171.out | refine below_set ?_ GE183.out) | exact HB.out)) hb); clear HO_184000; clear BK168; clear BK169; clear BK170; clear BK171; clear BK183; clear HB; have HO_184000 := n0_; have BK168 := n1_; have BK169 := n2_; have BK170 := n3_; have BK171 := n4_; have BK183 := n5_; have HB := n6_; clear n0_ n1_ n2_ n3_ n4_ n5_ n6_; (try clear hb); (try clear hb2); (try clear hk); (try clear hi); have hcz88_0 : w87.cell? ⟨gb183, 0, none⟩ = some (.slice Ao84 x184000_2.length co84) := (blk_cell BK183.out 0).trans rfl; have hcz88_1 : w87.cell? ⟨gb183, 1, none⟩ = some (.int .i64 t174) := (blk_cell BK183.out 1).trans rfl; have hcz88_2 : w87.cell? ⟨gb183, 2, none⟩ = some (.int .u64 t179) := (blk_cell BK183.out 2).trans rfl; have hcz88_3 : w87.cell? ⟨gb183, 3, none⟩ = some (.int .u64 t180) := (blk_cell BK183.out 3).trans rfl; have hcz88_4 : w87.cell? ⟨gb183, 4, none⟩ = some (.int .u64 t181) := (blk_cell BK183.out 4).trans rfl; have hcz88_5 : w87.cell? ⟨gb183, 5, none⟩ = some (.int .u64 t182) := (blk_cell BK183.out 5).trans rfl; have hcz88_6 : w87.cell? ⟨gb183, 6, none⟩ = some (.bool true) := (blk_cell BK183.out 6).trans rfl; have hfz88_0 := blk_frozen BK183.out 0; have hfz88_1 := blk_frozen BK183.out 1; have hfz88_2 := blk_frozen BK183.out 2; have hfz88_3 := blk_frozen BK183.out 3; have hfz88_4 := blk_frozen BK183.out 4; have hfz88_5 := blk_frozen BK183.out 5; have hfz88_6 := blk_frozen BK183.out 6; have hnb89 := NB171_168.out; have hnc89 := NB168_171.out; have hnb90 := NB171_169.out; have hnc90 := NB169_171.out; have hnb91 := NB171_170.out; have hnc91 := NB170_171.out; have hcz92_0 : w87.cell? ⟨gb171, 0, none⟩ = some (.slice none 0 0) := (blk_cell BK171.out 0).trans rfl; have hcz92_1 : w87.cell? ⟨gb171, 1, none⟩ = some (.int .i64 0) := (blk_cell BK171.out 1).trans rfl; have hcz92_2 : w87.cell? ⟨gb171, 2, none⟩ = some (.int .u64 0) := (blk_cell BK171.out 2).trans rfl; have hcz92_3 : w87.cell? ⟨gb171, 3, none⟩ = some (.int .u64 0) := (blk_cell BK171.out 3).trans rfl; have hcz92_4 : w87.cell? ⟨gb171, 4, none⟩ = some (.int .u64 0) := (blk_cell BK171.out 4).trans rfl; have hcz92_5 : w87.cell? ⟨gb171, 5, none⟩ = some (.int .u64 0) := (blk_cell BK171.out 5).trans rfl; have hcz92_6 : w87.cell? ⟨gb171, 6, none⟩ = some (.bool false) := (blk_cell BK171.out 6).trans rfl; have hfz92_0 := blk_frozen BK171.out 0; have hfz92_1 := blk_frozen BK171.out 1; have hfz92_2 := blk_frozen BK171.out 2; have hfz92_3 := blk_frozen BK171.out 3; have hfz92_4 := blk_frozen BK171.out 4; have hfz92_5 := blk_frozen BK171.out 5; have hfz92_6 := blk_frozen BK171.out 6))
          refine bodyPost_ret (results_ct rfl _ _ gb171 27 #[.slice Ao84 x184000_2.length co84, .int .i64 t174, .int .u64 t191, .int .u64 t192, .int .u64 t181, .int .u64 t182, .bool true] (0, 0) _ rfl (by (with_reducible repeat (first | refine blk_drewN ?_ _ | refine blk_drew ?_ | refine blk_alloc ?_ _)); refine blk_put (cs := #[.slice Ao84 x184000_2.length co84, .int .i64 t174, .int .u64 t191, .int .u64 t192, .int .u64 t181, .int .u64 t182, .bool false]) ?_ 6 _ rfl; (with_reducible repeat (first | refine blk_drewN ?_ _ | refine blk_drew ?_ | refine blk_alloc ?_ _)); refine blk_put (cs := #[.slice Ao84 x184000_2.length co84, .int .i64 t174, .int .u64 t191, .int .u64 t192, .int .u64 t181, .int .u64 0, .bool false]) ?_ 5 _ rfl; (with_reducible repeat (first | refine blk_drewN ?_ _ | refine blk_drew ?_ | refine blk_alloc ?_ _)); refine blk_put (cs := #[.slice Ao84 x184000_2.length co84, .int .i64 t174, .int .u64 t191, .int .u64 t192, .int .u64 0, .int .u64 0, .bool false]) ?_ 4 _ rfl; (with_reducible repeat (first | refine blk_drewN ?_ _ | refine blk_drew ?_ | refine blk_alloc ?_ _)); refine blk_put (cs := #[.slice Ao84 x184000_2.length co84, .int .i64 t174, .int .u64 t191, .int .u64 0, .int .u64 0, .int .u64 0, .bool false]) ?_ 3 _ rfl; (with_reducible repeat (first | refine blk_drewN ?_ _ | refine blk_drew ?_ | refine blk_alloc ?_ _)); refine blk_put (cs := #[.slice Ao84 x184000_2.length co84, .int .i64 t174, .int .u64 0, .int .u64 0, .int .u64 0, .int .u64 0, .bool false]) ?_ 2 _ rfl; (with_reducible repeat (first | refine blk_drewN ?_ _ | refine blk_drew ?_ | refine blk_alloc ?_ _)); refine blk_put (cs := #[.slice Ao84 x184000_2.length co84, .int .i64 0, .int .u64 0, .int .u64 0, .int .u64 0, .int .u64 0, .bool false]) ?_ 1 _ rfl; (with_reducible repeat (first | refine blk_drewN ?_ _ | refine blk_drew ?_ | refine blk_alloc ?_ _)); refine blk_put (cs := #[.slice none 0 0, .int .i64 0, .int .u64 0, .int .u64 0, .int .u64 0, .int .u64 0, .bool false]) ?_ 0 _ rfl; (repeat (first | (with_reducible first | refine blk_drewN ?_ _ | refine blk_drew ?_ | refine blk_alloc ?_ _) | refine blk_far ?_ NB171_183.out _)); (with_reducible repeat (first | refine blk_drewN ?_ _ | refine blk_drew ?_ | refine blk_alloc ?_ _)); exact BK171.out) Try.underlying27 rfl (by kernel_rfl)) rfl ?_
          exact ⟨_, by first | rfl | (simp [errW_none, errW_some] <;> rfl) | (simp [*, errW_none, errW_some] <;> rfl), by (with_reducible repeat (first | apply Kd.R_alloc | apply Kd.R_drewN | apply Kd.R_drew)); exact Kd.R_mono (Kd.R_far (p := ⟨gb171, 6, none⟩) (Kd.R_far (p := ⟨gb171, 5, none⟩) (Kd.R_far (p := ⟨gb171, 4, none⟩) (Kd.R_far (p := ⟨gb171, 3, none⟩) (Kd.R_far (p := ⟨gb171, 2, none⟩) (Kd.R_far (p := ⟨gb171, 1, none⟩) (Kd.R_far (p := ⟨gb171, 0, none⟩) (Kd.R_far (p := ⟨gb183, 3, none⟩) (Kd.R_far (p := ⟨gb183, 2, none⟩) (Kd.R_types (Kd.R_types HO_184000.out BK183.out (by decide)) BK171.out (by decide)) (fun _ hk => hk.1.2) (.int .u64 t191)) (fun _ hk => hk.1.2) (.int .u64 t192)) (fun _ hk => hk.2) (.slice Ao84 x184000_2.length co84)) (fun _ hk => hk.2) (.int .i64 t174)) (fun _ hk => hk.2) (.int .u64 t191)) (fun _ hk => hk.2) (.int .u64 t192)) (fun _ hk => hk.2) (.int .u64 t181)) (fun _ hk => hk.2) (.int .u64 t182)) (fun _ hk => hk.2) (.bool true)) (fun _ hk => trivial), by repeat (first | (with_reducible first | exact HB.out | apply below_alloc | apply pw_below_drewN | apply below_drew1 | refine below_set ?_ GE168.out | refine below_set ?_ GE169.out | refine below_set ?_ GE170.out | refine below_set ?_ GE171.out | refine below_set ?_ GE183.out) | exact HB.out)⟩
         ·
          rw [if_neg c77] at H
          have c77b0 : ((t179 / 9223372036854775808) == 1) = false := beq_eq_false_iff_ne.mpr c77
          (try rw [c77b0] at H)
          have c77b1 : ((t179 / 9223372036854775808) != 1) = true := bne_iff_ne.mpr c77
          simp only [Option.some.injEq, Prod.mk.injEq] at H
          obtain ⟨rfl, rfl, rfl, rfl, rfl, rfl, rfl, rfl⟩ := H
          have hnb93 := NB183_168.out
          have hnc93 := NB168_183.out
          have hnb94 := NB183_169.out
          have hnc94 := NB169_183.out
          have hnb95 := NB183_170.out
          have hnc95 := NB170_183.out
          have hnb96 := NB183_171.out
          have hnc96 := NB171_183.out
          have hcz97_0 : wr.cell? ⟨gb183, 0, none⟩ = some (u184000) := (blk_cell BK183.out 0).trans rfl
          have hcz97_1 : wr.cell? ⟨gb183, 1, none⟩ = some (.int .i64 t174) := (blk_cell BK183.out 1).trans rfl
          have hcz97_2 : wr.cell? ⟨gb183, 2, none⟩ = some (.int .u64 t179) := (blk_cell BK183.out 2).trans rfl
          have hcz97_3 : wr.cell? ⟨gb183, 3, none⟩ = some (.int .u64 t180) := (blk_cell BK183.out 3).trans rfl
          have hcz97_4 : wr.cell? ⟨gb183, 4, none⟩ = some (.int .u64 t181) := (blk_cell BK183.out 4).trans rfl
          have hcz97_5 : wr.cell? ⟨gb183, 5, none⟩ = some (.int .u64 t182) := (blk_cell BK183.out 5).trans rfl
          have hcz97_6 : wr.cell? ⟨gb183, 6, none⟩ = some (.bool false) := (blk_cell BK183.out 6).trans rfl
          have hfz97_0 := blk_frozen BK183.out 0
          have hfz97_1 := blk_frozen BK183.out 1
          have hfz97_2 := blk_frozen BK183.out 2
          have hfz97_3 := blk_frozen BK183.out 3
          have hfz97_4 := blk_frozen BK183.out 4
          have hfz97_5 := blk_frozen BK183.out 5
          have hfz97_6 := blk_frozen BK183.out 6
          obtain ⟨Ao98, co98, eo98⟩ := Kd.R_slice HO_184000.out
          subst eo98
          go_wp2_with (first | ((with_reducible refine gate_callee (f := 31) rfl ?_); refine goesL_ (some 87) rfl rfl Try.func31 (by kernel_rfl) rfl #[.agg #[.slice Ao98 x184000_2.length co98, .int .i64 t174, .int .u64 t179, .int .u64 t180, .int .u64 t181, .int .u64 t182, .bool false]] rfl (by (try simp only [List.map_toArray, List.map_cons, List.map_nil]); first | done | rfl | (simp only [List.length_drop, List.length_take]; rfl)) ?_; (with_reducible refine (ledger_entry_right.calls k2 _ _ x184000_2 t174 t179 t180 t181 t182 false true _ ?side1 ?side2 A75.out).mono ?_); (case side1 => repeat (first | exact (Kd.R_reads' HO_184000.out).2.2 | (with_reducible refine Kd.C_alloc ?_ _) | (with_reducible refine Kd.C_drewN ?_ _) | (with_reducible refine Kd.C_drew ?_))); (case side2 => exact (Kd.R_reads' HO_184000.out).2.1); rintro e w99 ⟨rfl, hb⟩; refine ⟨_, rfl, ?_⟩; have n0_ := Aside0.mk (Kd.R_below (by (with_reducible repeat (first | apply Kd.R_alloc | apply Kd.R_drewN | apply Kd.R_drew)); exact HO_184000.out) hb); have n1_ := ledger_way_both_f24.keepB BK168 hb; have n2_ := ledger_way_both_f24.keepB BK169 hb; have n3_ := ledger_way_both_f24.keepB BK170 hb; have n4_ := ledger_way_both_f24.keepB BK171 hb; have n5_ := ledger_way_both_f24.keepB BK183 hb; have n6_ := Aside0.mk (below_step (by repeat (first | (with_reducible first | exact HB.out | apply below_alloc | apply pw_below_drewN | apply below_drew1 | refine below_set ?_ GE168.out | refine below_set ?_ GE169.out | refine below_set ?_ GE170.out | refine below_set ?_ GE171.out | refine below_set ?_ GE183.out) | exact HB.out)) hb); clear HO_184000; clear BK168; clear BK169; clear BK170; clear BK171; clear BK183; clear HB; have HO_184000 := n0_; have BK168 := n1_; have BK169 := n2_; have BK170 := n3_; have BK171 := n4_; have BK183 := n5_; have HB := n6_; clear n0_ n1_ n2_ n3_ n4_ n5_ n6_; (try clear hb); (try clear hb2); (try clear hk); (try clear hi); have hcz100_0 : w99.cell? ⟨gb183, 0, none⟩ = some (.slice Ao98 x184000_2.length co98) := (blk_cell BK183.out 0).trans rfl; have hcz100_1 : w99.cell? ⟨gb183, 1, none⟩ = some (.int .i64 t174) := (blk_cell BK183.out 1).trans rfl; have hcz100_2 : w99.cell? ⟨gb183, 2, none⟩ = some (.int .u64 t179) := (blk_cell BK183.out 2).trans rfl; have hcz100_3 : w99.cell? ⟨gb183, 3, none⟩ = some (.int .u64 t180) := (blk_cell BK183.out 3).trans rfl; have hcz100_4 : w99.cell? ⟨gb183, 4, none⟩ = some (.int .u64 t181) := (blk_cell BK183.out 4).trans rfl; have hcz100_5 : w99.cell? ⟨gb183, 5, none⟩ = some (.int .u64 t182) := (blk_cell BK183.out 5).trans rfl; have hcz100_6 : w99.cell? ⟨gb183, 6, none⟩ = some (.bool false) := (blk_cell BK183.out 6).trans rfl; have hfz100_0 := blk_frozen BK183.out 0; have hfz100_1 := blk_frozen BK183.out 1; have hfz100_2 := blk_frozen BK183.out 2; have hfz100_3 := blk_frozen BK183.out 3; have hfz100_4 := blk_frozen BK183.out 4; have hfz100_5 := blk_frozen BK183.out 5; have hfz100_6 := blk_frozen BK183.out 6; have hnb101 := NB171_168.out; have hnc101 := NB168_171.out; have hnb102 := NB171_169.out; have hnc102 := NB169_171.out; have hnb103 := NB171_170.out; have hnc103 := NB170_171.out; have hcz104_0 : w99.cell? ⟨gb171, 0, none⟩ = some (.slice none 0 0) := (blk_cell BK171.out 0).trans rfl; have hcz104_1 : w99.cell? ⟨gb171, 1, none⟩ = some (.int .i64 0) := (blk_cell BK171.out 1).trans rfl; have hcz104_2 : w99.cell? ⟨gb171, 2, none⟩ = some (.int .u64 0) := (blk_cell BK171.out 2).trans rfl; have hcz104_3 : w99.cell? ⟨gb171, 3, none⟩ = some (.int .u64 0) := (blk_cell BK171.out 3).trans rfl; have hcz104_4 : w99.cell? ⟨gb171, 4, none⟩ = some (.int .u64 0) := (blk_cell BK171.out 4).trans rfl; have hcz104_5 : w99.cell? ⟨gb171, 5, none⟩ = some (.int .u64 0) := (blk_cell BK171.out 5).trans rfl; have hcz104_6 : w99.cell? ⟨gb171, 6, none⟩ = some (.bool false) := (blk_cell BK171.out 6).trans rfl; have hfz104_0 := blk_frozen BK171.out 0; have hfz104_1 := blk_frozen BK171.out 1; have hfz104_2 := blk_frozen BK171.out 2; have hfz104_3 := blk_frozen BK171.out 3; have hfz104_4 := blk_frozen BK171.out 4; have hfz104_5 := blk_frozen BK171.out 5; have hfz104_6 := blk_frozen BK171.out 6))
          refine bodyPost_ret (results_ct rfl _ _ gb171 27 #[.slice Ao98 x184000_2.length co98, .int .i64 t174, .int .u64 t179, .int .u64 t180, .int .u64 t181, .int .u64 t182, .bool false] (0, 0) _ rfl (by (with_reducible repeat (first | refine blk_drewN ?_ _ | refine blk_drew ?_ | refine blk_alloc ?_ _)); refine blk_put (cs := #[.slice Ao98 x184000_2.length co98, .int .i64 t174, .int .u64 t179, .int .u64 t180, .int .u64 t181, .int .u64 t182, .bool false]) ?_ 6 _ rfl; (with_reducible repeat (first | refine blk_drewN ?_ _ | refine blk_drew ?_ | refine blk_alloc ?_ _)); refine blk_put (cs := #[.slice Ao98 x184000_2.length co98, .int .i64 t174, .int .u64 t179, .int .u64 t180, .int .u64 t181, .int .u64 0, .bool false]) ?_ 5 _ rfl; (with_reducible repeat (first | refine blk_drewN ?_ _ | refine blk_drew ?_ | refine blk_alloc ?_ _)); refine blk_put (cs := #[.slice Ao98 x184000_2.length co98, .int .i64 t174, .int .u64 t179, .int .u64 t180, .int .u64 0, .int .u64 0, .bool false]) ?_ 4 _ rfl; (with_reducible repeat (first | refine blk_drewN ?_ _ | refine blk_drew ?_ | refine blk_alloc ?_ _)); refine blk_put (cs := #[.slice Ao98 x184000_2.length co98, .int .i64 t174, .int .u64 t179, .int .u64 0, .int .u64 0, .int .u64 0, .bool false]) ?_ 3 _ rfl; (with_reducible repeat (first | refine blk_drewN ?_ _ | refine blk_drew ?_ | refine blk_alloc ?_ _)); refine blk_put (cs := #[.slice Ao98 x184000_2.length co98, .int .i64 t174, .int .u64 0, .int .u64 0, .int .u64 0, .int .u64 0, .bool false]) ?_ 2 _ rfl; (with_reducible repeat (first | refine blk_drewN ?_ _ | refine blk_drew ?_ | refine blk_alloc ?_ _)); refine blk_put (cs := #[.slice Ao98 x184000_2.length co98, .int .i64 0, .int .u64 0, .int .u64 0, .int .u64 0, .int .u64 0, .bool false]) ?_ 1 _ rfl; (with_reducible repeat (first | refine blk_drewN ?_ _ | refine blk_drew ?_ | refine blk_alloc ?_ _)); refine blk_put (cs := #[.slice none 0 0, .int .i64 0, .int .u64 0, .int .u64 0, .int .u64 0, .int .u64 0, .bool false]) ?_ 0 _ rfl; (with_reducible repeat (first | refine blk_drewN ?_ _ | refine blk_drew ?_ | refine blk_alloc ?_ _)); refine blk_far ?_ NB171_183.out _; (with_reducible repeat (first | refine blk_drewN ?_ _ | refine blk_drew ?_ | refine blk_alloc ?_ _)); exact BK171.out) Try.underlying27 rfl (by kernel_rfl)) rfl ?_
          exact ⟨_, by first | rfl | (simp [errW_none, errW_some] <;> rfl) | (simp [*, errW_none, errW_some] <;> rfl), by (with_reducible repeat (first | apply Kd.R_alloc | apply Kd.R_drewN | apply Kd.R_drew)); exact Kd.R_mono (Kd.R_far (p := ⟨gb171, 6, none⟩) (Kd.R_far (p := ⟨gb171, 5, none⟩) (Kd.R_far (p := ⟨gb171, 4, none⟩) (Kd.R_far (p := ⟨gb171, 3, none⟩) (Kd.R_far (p := ⟨gb171, 2, none⟩) (Kd.R_far (p := ⟨gb171, 1, none⟩) (Kd.R_far (p := ⟨gb171, 0, none⟩) (Kd.R_far (p := ⟨gb183, 6, none⟩) (Kd.R_types (Kd.R_types HO_184000.out BK183.out (by decide)) BK171.out (by decide)) (fun _ hk => hk.1.2) (.bool false)) (fun _ hk => hk.2) (.slice Ao98 x184000_2.length co98)) (fun _ hk => hk.2) (.int .i64 t174)) (fun _ hk => hk.2) (.int .u64 t179)) (fun _ hk => hk.2) (.int .u64 t180)) (fun _ hk => hk.2) (.int .u64 t181)) (fun _ hk => hk.2) (.int .u64 t182)) (fun _ hk => hk.2) (.bool false)) (fun _ hk => trivial), by repeat (first | (with_reducible first | exact HB.out | apply below_alloc | apply pw_below_drewN | apply below_drew1 | refine below_set ?_ GE168.out | refine below_set ?_ GE169.out | refine below_set ?_ GE170.out | refine below_set ?_ GE171.out | refine below_set ?_ GE183.out) | exact HB.out)⟩
        ·
         replace c76 := Bool.eq_false_iff.mpr c76
         subst c76
         have H1 : (some (([] : List Int), 0, 0, 0, 0, 0, false, 4)) = some (r1, r2, r3, r4, r5, r6, r7, r8) := by rw [if_neg (show ¬ (false = true) by decide)] at H; exact H
         clear H
         have H := H1
         clear H1
         simp only [Option.some.injEq, Prod.mk.injEq] at H
         obtain ⟨rfl, rfl, rfl, rfl, rfl, rfl, rfl, rfl⟩ := H
         have hnb105 := NB183_168.out
         have hnc105 := NB168_183.out
         have hnb106 := NB183_169.out
         have hnc106 := NB169_183.out
         have hnb107 := NB183_170.out
         have hnc107 := NB170_183.out
         have hnb108 := NB183_171.out
         have hnc108 := NB171_183.out
         have hcz109_0 : wr.cell? ⟨gb183, 0, none⟩ = some (u184000) := (blk_cell BK183.out 0).trans rfl
         have hcz109_1 : wr.cell? ⟨gb183, 1, none⟩ = some (.int .i64 t174) := (blk_cell BK183.out 1).trans rfl
         have hcz109_2 : wr.cell? ⟨gb183, 2, none⟩ = some (.int .u64 t179) := (blk_cell BK183.out 2).trans rfl
         have hcz109_3 : wr.cell? ⟨gb183, 3, none⟩ = some (.int .u64 t180) := (blk_cell BK183.out 3).trans rfl
         have hcz109_4 : wr.cell? ⟨gb183, 4, none⟩ = some (.int .u64 t181) := (blk_cell BK183.out 4).trans rfl
         have hcz109_5 : wr.cell? ⟨gb183, 5, none⟩ = some (.int .u64 t182) := (blk_cell BK183.out 5).trans rfl
         have hcz109_6 : wr.cell? ⟨gb183, 6, none⟩ = some (.bool false) := (blk_cell BK183.out 6).trans rfl
         have hfz109_0 := blk_frozen BK183.out 0
         have hfz109_1 := blk_frozen BK183.out 1
         have hfz109_2 := blk_frozen BK183.out 2
         have hfz109_3 := blk_frozen BK183.out 3
         have hfz109_4 := blk_frozen BK183.out 4
         have hfz109_5 := blk_frozen BK183.out 5
         have hfz109_6 := blk_frozen BK183.out 6
         obtain ⟨Ao110, co110, eo110⟩ := Kd.R_slice HO_184000.out
         subst eo110
         go_wp2_with (first | ((with_reducible refine gate_callee (f := 31) rfl ?_); refine goesL_ (some 87) rfl rfl Try.func31 (by kernel_rfl) rfl #[.agg #[.slice Ao110 x184000_2.length co110, .int .i64 t174, .int .u64 t179, .int .u64 t180, .int .u64 t181, .int .u64 t182, .bool false]] rfl (by (try simp only [List.map_toArray, List.map_cons, List.map_nil]); first | done | rfl | (simp only [List.length_drop, List.length_take]; rfl)) ?_; (with_reducible refine (ledger_entry_right.calls k2 _ _ x184000_2 t174 t179 t180 t181 t182 false false _ ?side1 ?side2 A75.out).mono ?_); (case side1 => repeat (first | exact (Kd.R_reads' HO_184000.out).2.2 | (with_reducible refine Kd.C_alloc ?_ _) | (with_reducible refine Kd.C_drewN ?_ _) | (with_reducible refine Kd.C_drew ?_))); (case side2 => exact (Kd.R_reads' HO_184000.out).2.1); rintro e w111 ⟨rfl, hb⟩; refine ⟨_, rfl, ?_⟩; have n0_ := Aside0.mk (Kd.R_below (by (with_reducible repeat (first | apply Kd.R_alloc | apply Kd.R_drewN | apply Kd.R_drew)); exact HO_184000.out) hb); have n1_ := ledger_way_both_f24.keepB BK168 hb; have n2_ := ledger_way_both_f24.keepB BK169 hb; have n3_ := ledger_way_both_f24.keepB BK170 hb; have n4_ := ledger_way_both_f24.keepB BK171 hb; have n5_ := ledger_way_both_f24.keepB BK183 hb; have n6_ := Aside0.mk (below_step (by repeat (first | (with_reducible first | exact HB.out | apply below_alloc | apply pw_below_drewN | apply below_drew1 | refine below_set ?_ GE168.out | refine below_set ?_ GE169.out | refine below_set ?_ GE170.out | refine below_set ?_ GE171.out | refine below_set ?_ GE183.out) | exact HB.out)) hb); clear HO_184000; clear BK168; clear BK169; clear BK170; clear BK171; clear BK183; clear HB; have HO_184000 := n0_; have BK168 := n1_; have BK169 := n2_; have BK170 := n3_; have BK171 := n4_; have BK183 := n5_; have HB := n6_; clear n0_ n1_ n2_ n3_ n4_ n5_ n6_; (try clear hb); (try clear hb2); (try clear hk); (try clear hi); have hnb112 := NB171_168.out; have hnc112 := NB168_171.out; have hnb113 := NB171_169.out; have hnc113 := NB169_171.out; have hnb114 := NB171_170.out; have hnc114 := NB170_171.out; have hcz115_0 : w111.cell? ⟨gb171, 0, none⟩ = some (.slice none 0 0) := (blk_cell BK171.out 0).trans rfl; have hcz115_1 : w111.cell? ⟨gb171, 1, none⟩ = some (.int .i64 0) := (blk_cell BK171.out 1).trans rfl; have hcz115_2 : w111.cell? ⟨gb171, 2, none⟩ = some (.int .u64 0) := (blk_cell BK171.out 2).trans rfl; have hcz115_3 : w111.cell? ⟨gb171, 3, none⟩ = some (.int .u64 0) := (blk_cell BK171.out 3).trans rfl; have hcz115_4 : w111.cell? ⟨gb171, 4, none⟩ = some (.int .u64 0) := (blk_cell BK171.out 4).trans rfl; have hcz115_5 : w111.cell? ⟨gb171, 5, none⟩ = some (.int .u64 0) := (blk_cell BK171.out 5).trans rfl; have hcz115_6 : w111.cell? ⟨gb171, 6, none⟩ = some (.bool false) := (blk_cell BK171.out 6).trans rfl; have hfz115_0 := blk_frozen BK171.out 0; have hfz115_1 := blk_frozen BK171.out 1; have hfz115_2 := blk_frozen BK171.out 2; have hfz115_3 := blk_frozen BK171.out 3; have hfz115_4 := blk_frozen BK171.out 4; have hfz115_5 := blk_frozen BK171.out 5; have hfz115_6 := blk_frozen BK171.out 6))
         refine bodyPost_ret (results_ct rfl _ _ gb171 27 #[.slice none 0 0, .int .i64 0, .int .u64 0, .int .u64 0, .int .u64 0, .int .u64 0, .bool false] (0, 0) _ rfl (by (with_reducible repeat (first | refine blk_drewN ?_ _ | refine blk_drew ?_ | refine blk_alloc ?_ _)); refine blk_put (cs := #[.slice none 0 0, .int .i64 0, .int .u64 0, .int .u64 0, .int .u64 0, .int .u64 0, .bool false]) ?_ 6 _ rfl; (with_reducible repeat (first | refine blk_drewN ?_ _ | refine blk_drew ?_ | refine blk_alloc ?_ _)); refine blk_put (cs := #[.slice none 0 0, .int .i64 0, .int .u64 0, .int .u64 0, .int .u64 0, .int .u64 0, .bool false]) ?_ 5 _ rfl; (with_reducible repeat (first | refine blk_drewN ?_ _ | refine blk_drew ?_ | refine blk_alloc ?_ _)); refine blk_put (cs := #[.slice none 0 0, .int .i64 0, .int .u64 0, .int .u64 0, .int .u64 0, .int .u64 0, .bool false]) ?_ 4 _ rfl; (with_reducible repeat (first | refine blk_drewN ?_ _ | refine blk_drew ?_ | refine blk_alloc ?_ _)); refine blk_put (cs := #[.slice none 0 0, .int .i64 0, .int .u64 0, .int .u64 0, .int .u64 0, .int .u64 0, .bool false]) ?_ 3 _ rfl; (with_reducible repeat (first | refine blk_drewN ?_ _ | refine blk_drew ?_ | refine blk_alloc ?_ _)); refine blk_put (cs := #[.slice none 0 0, .int .i64 0, .int .u64 0, .int .u64 0, .int .u64 0, .int .u64 0, .bool false]) ?_ 2 _ rfl; (with_reducible repeat (first | refine blk_drewN ?_ _ | refine blk_drew ?_ | refine blk_alloc ?_ _)); refine blk_put (cs := #[.slice none 0 0, .int .i64 0, .int .u64 0, .int .u64 0, .int .u64 0, .int .u64 0, .bool false]) ?_ 1 _ rfl; (with_reducible repeat (first | refine blk_drewN ?_ _ | refine blk_drew ?_ | refine blk_alloc ?_ _)); refine blk_put (cs := #[.slice none 0 0, .int .i64 0, .int .u64 0, .int .u64 0, .int .u64 0, .int .u64 0, .bool false]) ?_ 0 _ rfl; (with_reducible repeat (first | refine blk_drewN ?_ _ | refine blk_drew ?_ | refine blk_alloc ?_ _)); exact BK171.out) Try.underlying27 rfl (by kernel_rfl)) rfl ?_
         exact ⟨_, by first | rfl | (simp [errW_none, errW_some] <;> rfl) | (simp [*, errW_none, errW_some] <;> rfl), by first | exact Kd.R_nil _ _ _ _ _ | exact Kd.N_nil _ _ _ _ _ | exact Kd.V_nil _ _ _ _ _ | exact Kd.Q_nil _ _ _ _ _ | exact Kd.S_nil _ _ _ _ _, by repeat (first | (with_reducible first | exact HB.out | apply below_alloc | apply pw_below_drewN | apply below_drew1 | refine below_set ?_ GE168.out | refine below_set ?_ GE169.out | refine below_set ?_ GE170.out | refine below_set ?_ GE171.out | refine below_set ?_ GE183.out) | exact HB.out)⟩
 ·
  rw [if_neg c4] at H
  have c4b0 : ((l1_0.length : Int) == (l2_0.length : Int)) = false := beq_eq_false_iff_ne.mpr c4
  have c4b1 : ((l1_0.length : Int) != (l2_0.length : Int)) = true := bne_iff_ne.mpr c4
  have c4b2 : (l1_0.length == l2_0.length) = false := by first | simpa using c4 | (simp at c4 ⊢; omega)
  simp only [Option.some.injEq, Prod.mk.injEq] at H
  obtain ⟨rfl, rfl, rfl, rfl, rfl, rfl, rfl, rfl⟩ := H
  go_enter Try.func17, Try.ntmps17
  go_wp2_with (first | ((with_reducible refine gate_dst (N := 3) rfl ?_); refine box_event ?hg (N := 3) ?hd (cs := #[.func (.func 24) #[] #[], .func (.func 25) #[] #[]]) (t := 45) ?hr ?_; (case hd => rfl); (case hg => rfl); (case hr => first | (go_simp; done) | (go_simp; rfl)); intro gb168 hg w116 hbox hb; have n0_ := Aside0.mk (below_step (by repeat (first | (with_reducible first | exact HB.out | apply below_alloc | apply pw_below_drewN | apply below_drew1) | exact HB.out)) hb); have n1_ := Aside0.mk (hbox); have n2_ := Aside0.mk ((by rw [hg]; exact (below_size (by repeat (first | (with_reducible first | exact HB.out | apply below_alloc | apply pw_below_drewN | apply below_drew1) | exact HB.out))) : w.heap.size ≤ gb168)); have n3_ := Aside0.mk ((by rw [hg]; exact (below_size (by repeat (first | (with_reducible first | exact HB.out | apply below_alloc | apply pw_below_drewN | apply below_drew1) | exact HB.out))) : w.heap.size ≤ gb168)); clear HB; have HB := n0_; have BK168 := n1_; have GW168 := n2_; have GE168 := n3_; clear n0_ n1_ n2_ n3_; clear hb hbox hg) | ((with_reducible refine gate_dst (N := 4) rfl ?_); refine box_event ?hg (N := 4) ?hd (cs := #[.slice A1_0 l1_0.length c1_0, .int .i64 a1_1, .int .u64 a1_2, .int .u64 a1_3, .int .u64 a1_4, .int .u64 a1_5, .bool a1_6]) (t := 48) ?hr ?_; (case hd => rfl); (case hg => rfl); (case hr => first | (go_simp; done) | (go_simp; rfl)); intro gb169 hg w117 hbox hb; have n0_ := ledger_way_both_f24.keepB BK168 hb; have n1_ := Aside0.mk (below_step (by repeat (first | (with_reducible first | exact HB.out | apply below_alloc | apply pw_below_drewN | apply below_drew1 | refine below_set ?_ GE168.out) | exact HB.out)) hb); have n2_ := Aside0.mk (hbox); have n3_ := Aside0.mk ((by rw [hg]; exact (below_size (by repeat (first | (with_reducible first | exact HB.out | apply below_alloc | apply pw_below_drewN | apply below_drew1 | refine below_set ?_ GE168.out) | exact HB.out))) : w.heap.size ≤ gb169)); have n4_ := Aside0.mk ((by rw [hg]; exact (below_size (by repeat (first | (with_reducible first | exact HB.out | apply below_alloc | apply pw_below_drewN | apply below_drew1 | refine below_set ?_ GE168.out) | exact HB.out))) : w.heap.size ≤ gb169)); have n5_ := ledger_way_both_f24.neL BK168 hg; have n6_ := ledger_way_both_f24.neG BK168 hg; clear BK168; clear HB; have BK168 := n0_; have HB := n1_; have BK169 := n2_; have GW169 := n3_; have GE169 := n4_; have NB168_169 := n5_; have NB169_168 := n6_; clear n0_ n1_ n2_ n3_ n4_ n5_ n6_; clear hb hbox hg) | ((with_reducible refine gate_dst (N := 5) rfl ?_); refine box_event ?hg (N := 5) ?hd (cs := #[.slice A2_0 l2_0.length c2_0, .int .i64 a2_1, .int .u64 a2_2, .int .u64 a2_3, .int .u64 a2_4, .int .u64 a2_5, .bool a2_6]) (t := 48) ?hr ?_; (case hd => rfl); (case hg => rfl); (case hr => first | (go_simp; done) | (go_simp; rfl)); intro gb170 hg w118 hbox hb; have n0_ := ledger_way_both_f24.keepB BK168 hb; have n1_ := ledger_way_both_f24.keepB BK169 hb; have n2_ := Aside0.mk (below_step (by repeat (first | (with_reducible first | exact HB.out | apply below_alloc | apply pw_below_drewN | apply below_drew1 | refine below_set ?_ GE168.out | refine below_set ?_ GE169.out) | exact HB.out)) hb); have n3_ := Aside0.mk (hbox); have n4_ := Aside0.mk ((by rw [hg]; exact (below_size (by repeat (first | (with_reducible first | exact HB.out | apply below_alloc | apply pw_below_drewN | apply below_drew1 | refine below_set ?_ GE168.out | refine below_set ?_ GE169.out) | exact HB.out))) : w.heap.size ≤ gb170)); have n5_ := Aside0.mk ((by rw [hg]; exact (below_size (by repeat (first | (with_reducible first | exact HB.out | apply below_alloc | apply pw_below_drewN | apply below_drew1 | refine below_set ?_ GE168.out | refine below_set ?_ GE169.out) | exact HB.out))) : w.heap.size ≤ gb170)); have n6_ := ledger_way_both_f24.neL BK168 hg; have n7_ := ledger_way_both_f24.neG BK168 hg; have n8_ := ledger_way_both_f24.neL BK169 hg; have n9_ := ledger_way_both_f24.neG BK169 hg; clear BK168; clear BK169; clear HB; have BK168 := n0_; have BK169 := n1_; have HB := n2_; have BK170 := n3_; have GW170 := n4_; have GE170 := n5_; have NB168_170 := n6_; have NB170_168 := n7_; have NB169_170 := n8_; have NB170_169 := n9_; clear n0_ n1_ n2_ n3_ n4_ n5_ n6_ n7_ n8_ n9_; clear hb hbox hg) | ((with_reducible refine gate_dst (N := 6) rfl ?_); refine box_event ?hg (N := 6) ?hd (cs := #[.slice none 0 0, .int .i64 0, .int .u64 0, .int .u64 0, .int .u64 0, .int .u64 0, .bool false]) (t := 27) ?hr ?_; (case hd => rfl); (case hg => rfl); (case hr => first | (go_simp; done) | (go_simp; rfl)); intro gb171 hg w119 hbox hb; have n0_ := ledger_way_both_f24.keepB BK168 hb; have n1_ := ledger_way_both_f24.keepB BK169 hb; have n2_ := ledger_way_both_f24.keepB BK170 hb; have n3_ := Aside0.mk (below_step (by repeat (first | (with_reducible first | exact HB.out | apply below_alloc | apply pw_below_drewN | apply below_drew1 | refine below_set ?_ GE168.out | refine below_set ?_ GE169.out | refine below_set ?_ GE170.out) | exact HB.out)) hb); have n4_ := Aside0.mk (hbox); have n5_ := Aside0.mk ((by rw [hg]; exact (below_size (by repeat (first | (with_reducible first | exact HB.out | apply below_alloc | apply pw_below_drewN | apply below_drew1 | refine below_set ?_ GE168.out | refine below_set ?_ GE169.out | refine below_set ?_ GE170.out) | exact HB.out))) : w.heap.size ≤ gb171)); have n6_ := Aside0.mk ((by rw [hg]; exact (below_size (by repeat (first | (with_reducible first | exact HB.out | apply below_alloc | apply pw_below_drewN | apply below_drew1 | refine below_set ?_ GE168.out | refine below_set ?_ GE169.out | refine below_set ?_ GE170.out) | exact HB.out))) : w.heap.size ≤ gb171)); have n7_ := ledger_way_both_f24.neL BK168 hg; have n8_ := ledger_way_both_f24.neG BK168 hg; have n9_ := ledger_way_both_f24.neL BK169 hg; have n10_ := ledger_way_both_f24.neG BK169 hg; have n11_ := ledger_way_both_f24.neL BK170 hg; have n12_ := ledger_way_both_f24.neG BK170 hg; clear BK168; clear BK169; clear BK170; clear HB; have BK168 := n0_; have BK169 := n1_; have BK170 := n2_; have HB := n3_; have BK171 := n4_; have GW171 := n5_; have GE171 := n6_; have NB168_171 := n7_; have NB171_168 := n8_; have NB169_171 := n9_; have NB171_169 := n10_; have NB170_171 := n11_; have NB171_170 := n12_; clear n0_ n1_ n2_ n3_ n4_ n5_ n6_ n7_ n8_ n9_ n10_ n11_ n12_; clear hb hbox hg; have hnb120 := NB169_168.out; have hnc120 := NB168_169.out; have hnb121 := NB169_170.out; have hnc121 := NB170_169.out; have hnb122 := NB169_171.out; have hnc122 := NB171_169.out; have hcz123_0 : w119.cell? ⟨gb169, 0, none⟩ = some (.slice A1_0 l1_0.length c1_0) := (blk_cell BK169.out 0).trans rfl; have hcz123_1 : w119.cell? ⟨gb169, 1, none⟩ = some (.int .i64 a1_1) := (blk_cell BK169.out 1).trans rfl; have hcz123_2 : w119.cell? ⟨gb169, 2, none⟩ = some (.int .u64 a1_2) := (blk_cell BK169.out 2).trans rfl; have hcz123_3 : w119.cell? ⟨gb169, 3, none⟩ = some (.int .u64 a1_3) := (blk_cell BK169.out 3).trans rfl; have hcz123_4 : w119.cell? ⟨gb169, 4, none⟩ = some (.int .u64 a1_4) := (blk_cell BK169.out 4).trans rfl; have hcz123_5 : w119.cell? ⟨gb169, 5, none⟩ = some (.int .u64 a1_5) := (blk_cell BK169.out 5).trans rfl; have hcz123_6 : w119.cell? ⟨gb169, 6, none⟩ = some (.bool a1_6) := (blk_cell BK169.out 6).trans rfl; have hfz123_0 := blk_frozen BK169.out 0; have hfz123_1 := blk_frozen BK169.out 1; have hfz123_2 := blk_frozen BK169.out 2; have hfz123_3 := blk_frozen BK169.out 3; have hfz123_4 := blk_frozen BK169.out 4; have hfz123_5 := blk_frozen BK169.out 5; have hfz123_6 := blk_frozen BK169.out 6; have hnb124 := NB170_168.out; have hnc124 := NB168_170.out; have hnb125 := NB170_171.out; have hnc125 := NB171_170.out; have hcz126_0 : w119.cell? ⟨gb170, 0, none⟩ = some (.slice A2_0 l2_0.length c2_0) := (blk_cell BK170.out 0).trans rfl; have hcz126_1 : w119.cell? ⟨gb170, 1, none⟩ = some (.int .i64 a2_1) := (blk_cell BK170.out 1).trans rfl; have hcz126_2 : w119.cell? ⟨gb170, 2, none⟩ = some (.int .u64 a2_2) := (blk_cell BK170.out 2).trans rfl; have hcz126_3 : w119.cell? ⟨gb170, 3, none⟩ = some (.int .u64 a2_3) := (blk_cell BK170.out 3).trans rfl; have hcz126_4 : w119.cell? ⟨gb170, 4, none⟩ = some (.int .u64 a2_4) := (blk_cell BK170.out 4).trans rfl; have hcz126_5 : w119.cell? ⟨gb170, 5, none⟩ = some (.int .u64 a2_5) := (blk_cell BK170.out 5).trans rfl; have hcz126_6 : w119.cell? ⟨gb170, 6, none⟩ = some (.bool a2_6) := (blk_cell BK170.out 6).trans rfl; have hfz126_0 := blk_frozen BK170.out 0; have hfz126_1 := blk_frozen BK170.out 1; have hfz126_2 := blk_frozen BK170.out 2; have hfz126_3 := blk_frozen BK170.out 3; have hfz126_4 := blk_frozen BK170.out 4; have hfz126_5 := blk_frozen BK170.out 5; have hfz126_6 := blk_frozen BK170.out 6; have hnb127 := NB171_168.out; have hnc127 := NB168_171.out; have hcz128_0 : w119.cell? ⟨gb171, 0, none⟩ = some (.slice none 0 0) := (blk_cell BK171.out 0).trans rfl; have hcz128_1 : w119.cell? ⟨gb171, 1, none⟩ = some (.int .i64 0) := (blk_cell BK171.out 1).trans rfl; have hcz128_2 : w119.cell? ⟨gb171, 2, none⟩ = some (.int .u64 0) := (blk_cell BK171.out 2).trans rfl; have hcz128_3 : w119.cell? ⟨gb171, 3, none⟩ = some (.int .u64 0) := (blk_cell BK171.out 3).trans rfl; have hcz128_4 : w119.cell? ⟨gb171, 4, none⟩ = some (.int .u64 0) := (blk_cell BK171.out 4).trans rfl; have hcz128_5 : w119.cell? ⟨gb171, 5, none⟩ = some (.int .u64 0) := (blk_cell BK171.out 5).trans rfl; have hcz128_6 : w119.cell? ⟨gb171, 6, none⟩ = some (.bool false) := (blk_cell BK171.out 6).trans rfl; have hfz128_0 := blk_frozen BK171.out 0; have hfz128_1 := blk_frozen BK171.out 1; have hfz128_2 := blk_frozen BK171.out 2; have hfz128_3 := blk_frozen BK171.out 3; have hfz128_4 := blk_frozen BK171.out 4; have hfz128_5 := blk_frozen BK171.out 5; have hfz128_6 := blk_frozen BK171.out 6))
  refine bodyPost_ret (results_ct rfl _ _ gb171 27 #[.slice none 0 0, .int .i64 0, .int .u64 0, .int .u64 0, .int .u64 0, .int .u64 0, .bool false] (0, 0) _ rfl (by (with_reducible repeat (first | refine blk_drewN ?_ _ | refine blk_drew ?_ | refine blk_alloc ?_ _)); refine blk_put (cs := #[.slice none 0 0, .int .i64 0, .int .u64 0, .int .u64 0, .int .u64 0, .int .u64 0, .bool false]) ?_ 6 _ rfl; (with_reducible repeat (first | refine blk_drewN ?_ _ | refine blk_drew ?_ | refine blk_alloc ?_ _)); refine blk_put (cs := #[.slice none 0 0, .int .i64 0, .int .u64 0, .int .u64 0, .int .u64 0, .int .u64 0, .bool false]) ?_ 5 _ rfl; (with_reducible repeat (first | refine blk_drewN ?_ _ | refine blk_drew ?_ | refine blk_alloc ?_ _)); refine blk_put (cs := #[.slice none 0 0, .int .i64 0, .int .u64 0, .int .u64 0, .int .u64 0, .int .u64 0, .bool false]) ?_ 4 _ rfl; (with_reducible repeat (first | refine blk_drewN ?_ _ | refine blk_drew ?_ | refine blk_alloc ?_ _)); refine blk_put (cs := #[.slice none 0 0, .int .i64 0, .int .u64 0, .int .u64 0, .int .u64 0, .int .u64 0, .bool false]) ?_ 3 _ rfl; (with_reducible repeat (first | refine blk_drewN ?_ _ | refine blk_drew ?_ | refine blk_alloc ?_ _)); refine blk_put (cs := #[.slice none 0 0, .int .i64 0, .int .u64 0, .int .u64 0, .int .u64 0, .int .u64 0, .bool false]) ?_ 2 _ rfl; (with_reducible repeat (first | refine blk_drewN ?_ _ | refine blk_drew ?_ | refine blk_alloc ?_ _)); refine blk_put (cs := #[.slice none 0 0, .int .i64 0, .int .u64 0, .int .u64 0, .int .u64 0, .int .u64 0, .bool false]) ?_ 1 _ rfl; (with_reducible repeat (first | refine blk_drewN ?_ _ | refine blk_drew ?_ | refine blk_alloc ?_ _)); refine blk_put (cs := #[.slice none 0 0, .int .i64 0, .int .u64 0, .int .u64 0, .int .u64 0, .int .u64 0, .bool false]) ?_ 0 _ rfl; (with_reducible repeat (first | refine blk_drewN ?_ _ | refine blk_drew ?_ | refine blk_alloc ?_ _)); exact BK171.out) Try.underlying27 rfl (by kernel_rfl)) rfl ?_
  exact ⟨_, by first | rfl | (simp [errW_none, errW_some] <;> rfl) | (simp [*, errW_none, errW_some] <;> rfl), by first | exact Kd.R_nil _ _ _ _ _ | exact Kd.N_nil _ _ _ _ _ | exact Kd.V_nil _ _ _ _ _ | exact Kd.Q_nil _ _ _ _ _ | exact Kd.S_nil _ _ _ _ _, by repeat (first | (with_reducible first | exact HB.out | apply below_alloc | apply pw_below_drewN | apply below_drew1 | refine below_set ?_ GE168.out | refine below_set ?_ GE169.out | refine below_set ?_ GE170.out | refine below_set ?_ GE171.out) | exact HB.out)⟩

end Go.Proofs.Yticihbccflflfaa.PAll
