/- The Go functions that the laws reach, as Lean functions, and that each call comes to what its function says. Written by a program of this session (a turned copy of the kit's print). No condition beyond those that each theorem states. -/
import Derived.Test.YtnceljfilcepcaaPAllx0
import Derived.Test.YtnceljfilcepcaaPAllx1
import Derived.Test.YtnceljfilcepcaaPAllx4
namespace Go.Proofs.Ytnceljfilcepcaa.PAll
open Go.RowKit Go.Proofs.YtnceljfilcepcaaW.PrintWords Go.Proofs.YtnceljfilcepcaaW.PrintLast Go.Proofs.YtnceljfilcepcaaW.PrintMore
attribute [local go_sem] max2_int min2_int max_two min_two max_three min_three max_four min_four   -- for this text's walks alone
set_option linter.unusedVariables false
set_option linter.unusedSimpArgs false

/-! ### offertorylaw11_BinRises: function 5 -/
def offertorylaw11_BinRises.j0 : Nat → Int → Int → Int → Int → Bool → Int → Int → Int → List Int → Option (Bool)
  | 0, _, _, _, _, _, _, _, _, _ => none
  | k + 1, x1, x2, x7, x9, x28, x196000, x196001, x196002, x196003 => if x28 = true then ((offertorylaw11_awake.f k).bind fun t201 => (some t201)) else (if x1 < x196000 then (if x1 > x2 then (some true) else (some (decide (x7 ≤ x9)))) else (if x1 > x196001 then (if x1 > x2 then (some true) else (some (decide (x7 ≤ x9)))) else (if x1 > x2 then (if x7 ≥ 0 then (if x7 ≤ (x196003.length : Int) then (if x7 = 0 then (if x7 = (x196003.length : Int) then (some true) else (if 0 ≤ x7 then (if x7 < (x196003.length : Int) then (some (decide (x1 < (rd x196003 x7)))) else (none)) else (none))) else (if 0 ≤ (wrap64 (x7 - 1)) then (if (wrap64 (x7 - 1)) < (x196003.length : Int) then (if (rd x196003 (wrap64 (x7 - 1))) ≤ x1 then (if x7 = (x196003.length : Int) then (some true) else (if 0 ≤ x7 then (if x7 < (x196003.length : Int) then (some (decide (x1 < (rd x196003 x7)))) else (none)) else (none))) else (some false)) else (none)) else (none))) else (some false)) else (some false)) else (if x7 ≤ x9 then (if x7 ≥ 0 then (if x7 ≤ (x196003.length : Int) then (if x7 = 0 then (if x7 = (x196003.length : Int) then (some true) else (if 0 ≤ x7 then (if x7 < (x196003.length : Int) then (some (decide (x1 < (rd x196003 x7)))) else (none)) else (none))) else (if 0 ≤ (wrap64 (x7 - 1)) then (if (wrap64 (x7 - 1)) < (x196003.length : Int) then (if (rd x196003 (wrap64 (x7 - 1))) ≤ x1 then (if x7 = (x196003.length : Int) then (some true) else (if 0 ≤ x7 then (if x7 < (x196003.length : Int) then (some (decide (x1 < (rd x196003 x7)))) else (none)) else (none))) else (some false)) else (none)) else (none))) else (some false)) else (some false)) else (some false)))))
def offertorylaw11_BinRises.f (k : Nat) (a0_0 : Int) (a0_1 : Int) (a0_2 : Int) (l0_3 : List Int) (a1 : Int) (a2 : Int) : Option (Bool) := (bin_Find.f k a0_0 a0_1 a0_2 l0_3 a1).bind fun bt196 => ((bin_Find.f k a0_0 a0_1 a0_2 l0_3 a2).bind fun bt198 => ((offertorylaw11_awake.f k).bind fun t200 => (if t200 = true then (offertorylaw11_BinRises.j0 k a1 a2 bt196.1 bt198.1 (bt196.2 != 0) a0_0 a0_1 a0_2 l0_3) else (offertorylaw11_BinRises.j0 k a1 a2 bt196.1 bt198.1 true a0_0 a0_1 a0_2 l0_3))))
theorem offertorylaw11_BinRises.mono_l : ∀ k, (∀ y0 y1 y2 y3 y4 y5 y6 y7 y8, LeO (offertorylaw11_BinRises.j0 k y0 y1 y2 y3 y4 y5 y6 y7 y8) (offertorylaw11_BinRises.j0 (k + 1) y0 y1 y2 y3 y4 y5 y6 y7 y8))
  | 0 => fun _ _ _ _ _ _ _ _ _ r h => by simp [offertorylaw11_BinRises.j0] at h
  | k + 1 => by
    have ih0 := offertorylaw11_BinRises.mono_l k
    · intro y0 y1 y2 y3 y4 y5 y6 y7 y8
      unfold offertorylaw11_BinRises.j0
      repeat' first
      | (with_reducible exact ih0 _ _ _ _ _ _ _ _ _)
      | (with_reducible exact bin_Find.mono _ _ _ _ _ _)
      | (with_reducible exact offertorylaw11_awake.mono _)
      | (with_reducible exact LeO.refl _)
      | (with_reducible exact LeO.none _)
      | (with_reducible refine LeO.ite ?_ ?_)
      | (with_reducible refine LeO.bind ?_ (fun _ => ?_))
      | exact ih0 _ _ _ _ _ _ _ _ _
      | exact bin_Find.mono _ _ _ _ _ _
      | exact offertorylaw11_awake.mono _
      | exact LeO.none _
      | refine LeO.ite ?_ ?_
      | refine LeO.bind ?_ (fun _ => ?_)
theorem offertorylaw11_BinRises.mono : ∀ a0 a1 a2 a3 a4 a5 k, LeO (offertorylaw11_BinRises.f k a0 a1 a2 a3 a4 a5) (offertorylaw11_BinRises.f (k + 1) a0 a1 a2 a3 a4 a5) := by
  intro a0 a1 a2 a3 a4 a5 k
  have ih0 := offertorylaw11_BinRises.mono_l k
  unfold offertorylaw11_BinRises.f
  repeat' first
      | (with_reducible exact ih0 _ _ _ _ _ _ _ _ _)
      | (with_reducible exact bin_Find.mono _ _ _ _ _ _)
      | (with_reducible exact offertorylaw11_awake.mono _)
      | (with_reducible exact LeO.refl _)
      | (with_reducible exact LeO.none _)
      | (with_reducible refine LeO.ite ?_ ?_)
      | (with_reducible refine LeO.bind ?_ (fun _ => ?_))
      | exact ih0 _ _ _ _ _ _ _ _ _
      | exact bin_Find.mono _ _ _ _ _ _
      | exact offertorylaw11_awake.mono _
      | exact LeO.none _
      | refine LeO.ite ?_ ?_
      | refine LeO.bind ?_ (fun _ => ?_)
set_option maxHeartbeats 8000000 in
set_option maxRecDepth 100000 in
theorem offertorylaw11_BinRises.calls (k : Nat) (a0_0 : Int) (a0_1 : Int) (a0_2 : Int) (A0_3 : Option Addr) (c0_3 : Nat) (l0_3 : List Int) (a1 : Int) (a2 : Int) (r : Bool) (w : World) (hr0_3 : Kd.C (Kd.int .i64) w A0_3 l0_3.length l0_3) (hc0_3 : l0_3.length ≤ c0_3) (h : offertorylaw11_BinRises.f k a0_0 a0_1 a0_2 l0_3 a1 a2 = some r) :
    Calls Try.prog 5 #[.agg #[.int .i64 a0_0, .int .i64 a0_1, .int .i64 a0_2, .slice A0_3 l0_3.length c0_3], .int .i64 a1, .int .i64 a2] w fun e w' => e = .returned (.bool r) ∧ Below w.heap.size w w' := by
  have hu24 := Try.underlying24
  have HR0_3 := Aside0.mk hr0_3
  have HC0_3 := Aside0.mk hc0_3
  clear hr0_3 hc0_3
  have HB := Aside0.mk (Below.refl w.heap.size w)
  have H : ((bin_Find.f k a0_0 a0_1 a0_2 l0_3 a1).bind fun bt196 => ((bin_Find.f k a0_0 a0_1 a0_2 l0_3 a2).bind fun bt198 => ((offertorylaw11_awake.f k).bind fun t200 => (if t200 = true then (offertorylaw11_BinRises.j0 k a1 a2 bt196.1 bt198.1 (bt196.2 != 0) a0_0 a0_1 a0_2 l0_3) else (offertorylaw11_BinRises.j0 k a1 a2 bt196.1 bt198.1 true a0_0 a0_1 a0_2 l0_3))))) = some r := h
  clear h
  replace H := Option.bind_eq_some_iff.mp H
  obtain ⟨⟨t196, t197⟩, A40, H⟩ := H
  replace H : ((bin_Find.f k a0_0 a0_1 a0_2 l0_3 a2).bind fun bt198 => ((offertorylaw11_awake.f k).bind fun t200 => (if t200 = true then (offertorylaw11_BinRises.j0 k a1 a2 t196 bt198.1 (t197 != 0) a0_0 a0_1 a0_2 l0_3) else (offertorylaw11_BinRises.j0 k a1 a2 t196 bt198.1 true a0_0 a0_1 a0_2 l0_3)))) = some r := H
  have A4 := Aside0.mk A40
  clear A40
  replace H := Option.bind_eq_some_iff.mp H
  obtain ⟨⟨t198, t199⟩, A50, H⟩ := H
  replace H : ((offertorylaw11_awake.f k).bind fun t200 => (if t200 = true then (offertorylaw11_BinRises.j0 k a1 a2 t196 t198 (t197 != 0) a0_0 a0_1 a0_2 l0_3) else (offertorylaw11_BinRises.j0 k a1 a2 t196 t198 true a0_0 a0_1 a0_2 l0_3))) = some r := H
  have A5 := Aside0.mk A50
  clear A50
  have HC6 := Aside0.mk H
  clear H
  go_enter Try.func5, Try.ntmps5
  go_upto_region 3 with (first | ((with_reducible refine gate_dst (N := 3) rfl ?_); (try (refine gate_guard (by rfl) ?_; dsimp only)); refine box_event ?hg (N := 3) ?hd (cs := #[.int .i64 a0_0, .int .i64 a0_1, .int .i64 a0_2, .slice A0_3 l0_3.length c0_3]) (t := 24) ?hr ?_; (case hd => rfl); (case hg => rfl); (case hr => first | (go_simp; done) | (go_simp; rfl)); intro gb195 hg w7 hbox hb; have n0_ := Aside0.mk (below_step (by repeat (first | (with_reducible first | exact HB.out | apply below_alloc | apply pw_below_drewN | apply below_drew1) | exact HB.out)) hb); have n1_ := Aside0.mk (hbox); have n2_ := Aside0.mk ((by rw [hg]; exact (below_size (by repeat (first | (with_reducible first | exact HB.out | apply below_alloc | apply pw_below_drewN | apply below_drew1) | exact HB.out))) : w.heap.size ≤ gb195)); have n3_ := Aside0.mk ((by rw [hg]; exact (below_size (by repeat (first | (with_reducible first | exact HB.out | apply below_alloc | apply pw_below_drewN | apply below_drew1) | exact HB.out))) : w.heap.size ≤ gb195)); clear HB; have HB := n0_; have BK195 := n1_; have GW195 := n2_; have GE195 := n3_; clear n0_ n1_ n2_ n3_; clear hb hbox hg; have hcz8_0 : w7.cell? ⟨gb195, 0, none⟩ = some (.int .i64 a0_0) := (blk_cell BK195.out 0).trans rfl; have hcz8_1 : w7.cell? ⟨gb195, 1, none⟩ = some (.int .i64 a0_1) := (blk_cell BK195.out 1).trans rfl; have hcz8_2 : w7.cell? ⟨gb195, 2, none⟩ = some (.int .i64 a0_2) := (blk_cell BK195.out 2).trans rfl; have hcz8_3 : w7.cell? ⟨gb195, 3, none⟩ = some (.slice A0_3 l0_3.length c0_3) := (blk_cell BK195.out 3).trans rfl; have hfz8_0 := blk_frozen BK195.out 0; have hfz8_1 := blk_frozen BK195.out 1; have hfz8_2 := blk_frozen BK195.out 2; have hfz8_3 := blk_frozen BK195.out 3) | ((with_reducible refine gate_callee (f := 7) rfl ?_); refine goesL_ (some 14) rfl rfl Try.func7 (by kernel_rfl) rfl #[.agg #[.int .i64 a0_0, .int .i64 a0_1, .int .i64 a0_2, .slice A0_3 l0_3.length c0_3], .int .i64 a1] rfl (by (try simp only [List.map_toArray, List.map_cons, List.map_nil]); first | done | rfl | (simp only [List.length_drop, List.length_take]; rfl)) ?_; (with_reducible refine (bin_Find.calls k a0_0 a0_1 a0_2 _ _ l0_3 a1 t196 t197 _ ?side1 ?side2 A4.out).mono ?_); (case side1 => repeat (first | exact (Kd.C_below HR0_3.out HB.out) | (with_reducible refine Kd.C_alloc ?_ _) | (with_reducible refine Kd.C_drewN ?_ _) | (with_reducible refine Kd.C_drew ?_))); (case side2 => exact HC0_3.out); rintro e w9 ⟨rfl, hb⟩; refine ⟨_, rfl, ?_⟩; have n0_ := Aside0.mk (blk_below (g := gb195) (o := .cells #[.int .i64 a0_0, .int .i64 a0_1, .int .i64 a0_2, .slice A0_3 l0_3.length c0_3] 24 (0, 0)) (by (with_reducible repeat (first | refine blk_drewN ?_ _ | refine blk_drew ?_ | refine blk_alloc ?_ _)); exact BK195.out) hb); have n1_ := Aside0.mk (below_step (by repeat (first | (with_reducible first | exact HB.out | apply below_alloc | apply pw_below_drewN | apply below_drew1 | refine below_set ?_ GE195.out) | exact HB.out)) hb); clear BK195; clear HB; have BK195 := n0_; have HB := n1_; clear n0_ n1_; (try clear hb); (try clear hb2); (try clear hk); (try clear hi); have hcz10_0 : w9.cell? ⟨gb195, 0, none⟩ = some (.int .i64 a0_0) := (blk_cell BK195.out 0).trans rfl; have hcz10_1 : w9.cell? ⟨gb195, 1, none⟩ = some (.int .i64 a0_1) := (blk_cell BK195.out 1).trans rfl; have hcz10_2 : w9.cell? ⟨gb195, 2, none⟩ = some (.int .i64 a0_2) := (blk_cell BK195.out 2).trans rfl; have hcz10_3 : w9.cell? ⟨gb195, 3, none⟩ = some (.slice A0_3 l0_3.length c0_3) := (blk_cell BK195.out 3).trans rfl; have hfz10_0 := blk_frozen BK195.out 0; have hfz10_1 := blk_frozen BK195.out 1; have hfz10_2 := blk_frozen BK195.out 2; have hfz10_3 := blk_frozen BK195.out 3) | ((with_reducible refine gate_callee (f := 7) rfl ?_); refine goesL_ (some 20) rfl rfl Try.func7 (by kernel_rfl) rfl #[.agg #[.int .i64 a0_0, .int .i64 a0_1, .int .i64 a0_2, .slice A0_3 l0_3.length c0_3], .int .i64 a2] rfl (by (try simp only [List.map_toArray, List.map_cons, List.map_nil]); first | done | rfl | (simp only [List.length_drop, List.length_take]; rfl)) ?_; (with_reducible refine (bin_Find.calls k a0_0 a0_1 a0_2 _ _ l0_3 a2 t198 t199 _ ?side1 ?side2 A5.out).mono ?_); (case side1 => repeat (first | exact (Kd.C_below HR0_3.out HB.out) | (with_reducible refine Kd.C_alloc ?_ _) | (with_reducible refine Kd.C_drewN ?_ _) | (with_reducible refine Kd.C_drew ?_))); (case side2 => exact HC0_3.out); rintro e w11 ⟨rfl, hb⟩; refine ⟨_, rfl, ?_⟩; have n0_ := Aside0.mk (blk_below (g := gb195) (o := .cells #[.int .i64 a0_0, .int .i64 a0_1, .int .i64 a0_2, .slice A0_3 l0_3.length c0_3] 24 (0, 0)) (by (with_reducible repeat (first | refine blk_drewN ?_ _ | refine blk_drew ?_ | refine blk_alloc ?_ _)); exact BK195.out) hb); have n1_ := Aside0.mk (below_step (by repeat (first | (with_reducible first | exact HB.out | apply below_alloc | apply pw_below_drewN | apply below_drew1 | refine below_set ?_ GE195.out) | exact HB.out)) hb); clear BK195; clear HB; have BK195 := n0_; have HB := n1_; clear n0_ n1_; (try clear hb); (try clear hb2); (try clear hk); (try clear hi)))
  (try simp only [Act.put, List.setIfInBounds_toArray, List.set_cons_zero, List.set_cons_succ])
  go_cut [28] (fun v28 wc => ∃ (kq : Nat) (x28_5 : Bool), v28 = .bool x28_5 ∧ Aside0 (offertorylaw11_BinRises.j0 kq a1 a2 t196 t198 x28_5 a0_0 a0_1 a0_2 l0_3 = some r) ∧ Aside0 (kq ≤ k) ∧ Aside0 (wc.heap[gb195]? = some (.cells #[.int .i64 a0_0, .int .i64 a0_1, .int .i64 a0_2, (.slice A0_3 l0_3.length c0_3)] 24 (0, 0))) ∧ Aside0 (Below w.heap.size w wc))
  case first =>
    have H := HC6.out
    clear HC6
    replace H := Option.bind_eq_some_iff.mp H
    obtain ⟨t200, A120, H⟩ := H
    replace H : (if t200 = true then (offertorylaw11_BinRises.j0 k a1 a2 t196 t198 (t197 != 0) a0_0 a0_1 a0_2 l0_3) else (offertorylaw11_BinRises.j0 k a1 a2 t196 t198 true a0_0 a0_1 a0_2 l0_3)) = some r := H
    have A12 := Aside0.mk A120
    clear A120
    by_cases c13 : t200 = true
    · subst c13
      have H1 : (offertorylaw11_BinRises.j0 k a1 a2 t196 t198 (t197 != 0) a0_0 a0_1 a0_2 l0_3) = some r := by rw [if_pos rfl] at H; exact H
      clear H
      have H := H1
      clear H1
      have H' := Aside0.mk H
      clear H
      go_wp2_with (first | ((with_reducible refine gate_callee (f := 9) rfl ?_); refine goesL_ (some 23) rfl rfl Try.func9 (by kernel_rfl) rfl #[] rfl (by (try simp only [List.map_toArray, List.map_cons, List.map_nil]); first | done | rfl | (simp only [List.length_drop, List.length_take]; rfl)) ?_; (with_reducible refine (offertorylaw11_awake.calls k  true _ A12.out).mono ?_); rintro e w14 ⟨rfl, hb⟩; refine ⟨_, rfl, ?_⟩; have n0_ := Aside0.mk (blk_below (g := gb195) (o := .cells #[.int .i64 a0_0, .int .i64 a0_1, .int .i64 a0_2, .slice A0_3 l0_3.length c0_3] 24 (0, 0)) (by (with_reducible repeat (first | refine blk_drewN ?_ _ | refine blk_drew ?_ | refine blk_alloc ?_ _)); exact BK195.out) hb); have n1_ := Aside0.mk (below_step (by repeat (first | (with_reducible first | exact HB.out | apply below_alloc | apply pw_below_drewN | apply below_drew1 | refine below_set ?_ GE195.out) | exact HB.out)) hb); clear BK195; clear HB; have BK195 := n0_; have HB := n1_; clear n0_ n1_; (try clear hb); (try clear hb2); (try clear hk); (try clear hi)))
      go_meet
      case rel => exact ⟨_, ((t197 != 0)), (by first | rfl | (simp; done) | (simp [*]; done)), H', ⟨by first | omega | exact Nat.le_refl _⟩, ⟨by (with_reducible repeat (first | refine blk_drewN ?_ _ | refine blk_drew ?_ | refine blk_alloc ?_ _)); exact BK195.out⟩, ⟨by repeat (first | (with_reducible first | exact HB.out | apply below_alloc | apply pw_below_drewN | apply below_drew1 | refine below_set ?_ GE195.out) | exact HB.out)⟩⟩
    · replace c13 := Bool.eq_false_iff.mpr c13
      subst c13
      have H1 : (offertorylaw11_BinRises.j0 k a1 a2 t196 t198 true a0_0 a0_1 a0_2 l0_3) = some r := by rw [if_neg (show ¬ (false = true) by decide)] at H; exact H
      clear H
      have H := H1
      clear H1
      have H' := Aside0.mk H
      clear H
      go_wp2_with (first | ((with_reducible refine gate_callee (f := 9) rfl ?_); refine goesL_ (some 23) rfl rfl Try.func9 (by kernel_rfl) rfl #[] rfl (by (try simp only [List.map_toArray, List.map_cons, List.map_nil]); first | done | rfl | (simp only [List.length_drop, List.length_take]; rfl)) ?_; (with_reducible refine (offertorylaw11_awake.calls k  false _ A12.out).mono ?_); rintro e w15 ⟨rfl, hb⟩; refine ⟨_, rfl, ?_⟩; have n0_ := Aside0.mk (blk_below (g := gb195) (o := .cells #[.int .i64 a0_0, .int .i64 a0_1, .int .i64 a0_2, .slice A0_3 l0_3.length c0_3] 24 (0, 0)) (by (with_reducible repeat (first | refine blk_drewN ?_ _ | refine blk_drew ?_ | refine blk_alloc ?_ _)); exact BK195.out) hb); have n1_ := Aside0.mk (below_step (by repeat (first | (with_reducible first | exact HB.out | apply below_alloc | apply pw_below_drewN | apply below_drew1 | refine below_set ?_ GE195.out) | exact HB.out)) hb); clear BK195; clear HB; have BK195 := n0_; have HB := n1_; clear n0_ n1_; (try clear hb); (try clear hb2); (try clear hk); (try clear hi)))
      go_meet
      case rel => exact ⟨_, (true), (by first | rfl | (simp; done) | (simp [*]; done)), H', ⟨by first | omega | exact Nat.le_refl _⟩, ⟨by (with_reducible repeat (first | refine blk_drewN ?_ _ | refine blk_drew ?_ | refine blk_alloc ?_ _)); exact BK195.out⟩, ⟨by repeat (first | (with_reducible first | exact HB.out | apply below_alloc | apply pw_below_drewN | apply below_drew1 | refine below_set ?_ GE195.out) | exact HB.out)⟩⟩
  case rest =>
    clear HC6
    try clear c1
    try clear p2
    try clear c5
    try clear c7
    try clear c9
    try clear c13
    try clear hcz10_0
    try clear hcz10_1
    try clear hcz10_2
    try clear hcz10_3
    try clear hcz8_0
    try clear hcz8_1
    try clear hcz8_2
    try clear hcz8_3
    try clear hfz10_0
    try clear hfz10_1
    try clear hfz10_2
    try clear hfz10_3
    try clear hfz8_0
    try clear hfz8_1
    try clear hfz8_2
    try clear hfz8_3
    obtain ⟨kq, x28_5, rfl, HA, HJ5, BK195, HB⟩ := hcut
    cases kq with
    | zero => exact absurd HA.out (by simp [offertorylaw11_BinRises.j0])
    | succ kj5 =>
      have H := HA.out
      clear HA
      simp only [offertorylaw11_BinRises.j0] at H
      by_cases c16 : x28_5 = true
      · subst c16
        have H1 : ((offertorylaw11_awake.f kj5).bind fun t201 => (some t201)) = some r := by rw [if_pos rfl] at H; exact H
        clear H
        have H := H1
        clear H1
        replace H := Option.bind_eq_some_iff.mp H
        obtain ⟨t201, A170, H⟩ := H
        replace H : (some t201) = some r := H
        have A17 := Aside0.mk A170
        clear A170
        obtain rfl := Option.some.inj H
        go_wp2_with (first | ((with_reducible refine gate_callee (f := 9) rfl ?_); refine goesL_ (some 29) rfl rfl Try.func9 (by kernel_rfl) rfl #[] rfl (by (try simp only [List.map_toArray, List.map_cons, List.map_nil]); first | done | rfl | (simp only [List.length_drop, List.length_take]; rfl)) ?_; (with_reducible refine (offertorylaw11_awake.calls kj5  t201 _ A17.out).mono ?_); rintro e w18 ⟨rfl, hb⟩; refine ⟨_, rfl, ?_⟩; have n0_ := Aside0.mk (blk_below (g := gb195) (o := .cells #[.int .i64 a0_0, .int .i64 a0_1, .int .i64 a0_2, .slice A0_3 l0_3.length c0_3] 24 (0, 0)) (by (with_reducible repeat (first | refine blk_drewN ?_ _ | refine blk_drew ?_ | refine blk_alloc ?_ _)); exact BK195.out) hb); have n1_ := Aside0.mk (below_step (by repeat (first | (with_reducible first | exact HB.out | apply below_alloc | apply pw_below_drewN | apply below_drew1 | refine below_set ?_ GE195.out) | exact HB.out)) hb); clear BK195; clear HB; have BK195 := n0_; have HB := n1_; clear n0_ n1_; (try clear hb); (try clear hb2); (try clear hk); (try clear hi)))
        go_ret
        exact ⟨by first | rfl | (simp [errW_none, errW_some] <;> rfl) | (simp [*, errW_none, errW_some] <;> rfl), by repeat (first | (with_reducible first | exact HB.out | apply below_alloc | apply pw_below_drewN | apply below_drew1 | refine below_set ?_ GE195.out) | exact HB.out)⟩
      · replace c16 := Bool.eq_false_iff.mpr c16
        subst c16
        have H1 : (if a1 < a0_0 then (if a1 > a2 then (some true) else (some (decide (t196 ≤ t198)))) else (if a1 > a0_1 then (if a1 > a2 then (some true) else (some (decide (t196 ≤ t198)))) else (if a1 > a2 then (if t196 ≥ 0 then (if t196 ≤ (l0_3.length : Int) then (if t196 = 0 then (if t196 = (l0_3.length : Int) then (some true) else (if 0 ≤ t196 then (if t196 < (l0_3.length : Int) then (some (decide (a1 < (rd l0_3 t196)))) else (none)) else (none))) else (if 0 ≤ (wrap64 (t196 - 1)) then (if (wrap64 (t196 - 1)) < (l0_3.length : Int) then (if (rd l0_3 (wrap64 (t196 - 1))) ≤ a1 then (if t196 = (l0_3.length : Int) then (some true) else (if 0 ≤ t196 then (if t196 < (l0_3.length : Int) then (some (decide (a1 < (rd l0_3 t196)))) else (none)) else (none))) else (some false)) else (none)) else (none))) else (some false)) else (some false)) else (if t196 ≤ t198 then (if t196 ≥ 0 then (if t196 ≤ (l0_3.length : Int) then (if t196 = 0 then (if t196 = (l0_3.length : Int) then (some true) else (if 0 ≤ t196 then (if t196 < (l0_3.length : Int) then (some (decide (a1 < (rd l0_3 t196)))) else (none)) else (none))) else (if 0 ≤ (wrap64 (t196 - 1)) then (if (wrap64 (t196 - 1)) < (l0_3.length : Int) then (if (rd l0_3 (wrap64 (t196 - 1))) ≤ a1 then (if t196 = (l0_3.length : Int) then (some true) else (if 0 ≤ t196 then (if t196 < (l0_3.length : Int) then (some (decide (a1 < (rd l0_3 t196)))) else (none)) else (none))) else (some false)) else (none)) else (none))) else (some false)) else (some false)) else (some false))))) = some r := by rw [if_neg (show ¬ (false = true) by decide)] at H; exact H
        clear H
        have H := H1
        clear H1
        by_cases c19 : a1 < a0_0
        · rw [if_pos c19] at H
          have c19b0 : decide (a1 < a0_0) = true := decide_eq_true c19
          clear c19
          by_cases c20 : a1 > a2
          · rw [if_pos c20] at H
            have c20b0 : decide (a2 < a1) = true := decide_eq_true c20
            clear c20
            obtain rfl := Option.some.inj H
            have hcz21_0 : wc.cell? ⟨gb195, 0, none⟩ = some (.int .i64 a0_0) := (blk_cell BK195.out 0).trans rfl
            have hcz21_1 : wc.cell? ⟨gb195, 1, none⟩ = some (.int .i64 a0_1) := (blk_cell BK195.out 1).trans rfl
            have hcz21_2 : wc.cell? ⟨gb195, 2, none⟩ = some (.int .i64 a0_2) := (blk_cell BK195.out 2).trans rfl
            have hcz21_3 : wc.cell? ⟨gb195, 3, none⟩ = some (.slice A0_3 l0_3.length c0_3) := (blk_cell BK195.out 3).trans rfl
            have hfz21_0 := blk_frozen BK195.out 0
            have hfz21_1 := blk_frozen BK195.out 1
            have hfz21_2 := blk_frozen BK195.out 2
            have hfz21_3 := blk_frozen BK195.out 3
            go_wp2
            go_ret
            exact ⟨by first | rfl | (simp [errW_none, errW_some] <;> rfl) | (simp [*, errW_none, errW_some] <;> rfl), by repeat (first | (with_reducible first | exact HB.out | apply below_alloc | apply pw_below_drewN | apply below_drew1 | refine below_set ?_ GE195.out) | exact HB.out)⟩
          · rw [if_neg c20] at H
            have c20b0 : decide (a2 < a1) = false := decide_eq_false c20
            clear c20
            obtain rfl := Option.some.inj H
            have hcz22_0 : wc.cell? ⟨gb195, 0, none⟩ = some (.int .i64 a0_0) := (blk_cell BK195.out 0).trans rfl
            have hcz22_1 : wc.cell? ⟨gb195, 1, none⟩ = some (.int .i64 a0_1) := (blk_cell BK195.out 1).trans rfl
            have hcz22_2 : wc.cell? ⟨gb195, 2, none⟩ = some (.int .i64 a0_2) := (blk_cell BK195.out 2).trans rfl
            have hcz22_3 : wc.cell? ⟨gb195, 3, none⟩ = some (.slice A0_3 l0_3.length c0_3) := (blk_cell BK195.out 3).trans rfl
            have hfz22_0 := blk_frozen BK195.out 0
            have hfz22_1 := blk_frozen BK195.out 1
            have hfz22_2 := blk_frozen BK195.out 2
            have hfz22_3 := blk_frozen BK195.out 3
            go_wp2
            go_ret
            exact ⟨by first | rfl | (simp [errW_none, errW_some] <;> rfl) | (simp [*, errW_none, errW_some] <;> rfl), by repeat (first | (with_reducible first | exact HB.out | apply below_alloc | apply pw_below_drewN | apply below_drew1 | refine below_set ?_ GE195.out) | exact HB.out)⟩
        · rw [if_neg c19] at H
          have c19b0 : decide (a1 < a0_0) = false := decide_eq_false c19
          clear c19
          by_cases c23 : a1 > a0_1
          · rw [if_pos c23] at H
            have c23b0 : decide (a0_1 < a1) = true := decide_eq_true c23
            clear c23
            by_cases c24 : a1 > a2
            · rw [if_pos c24] at H
              have c24b0 : decide (a2 < a1) = true := decide_eq_true c24
              clear c24
              obtain rfl := Option.some.inj H
              have hcz25_0 : wc.cell? ⟨gb195, 0, none⟩ = some (.int .i64 a0_0) := (blk_cell BK195.out 0).trans rfl
              have hcz25_1 : wc.cell? ⟨gb195, 1, none⟩ = some (.int .i64 a0_1) := (blk_cell BK195.out 1).trans rfl
              have hcz25_2 : wc.cell? ⟨gb195, 2, none⟩ = some (.int .i64 a0_2) := (blk_cell BK195.out 2).trans rfl
              have hcz25_3 : wc.cell? ⟨gb195, 3, none⟩ = some (.slice A0_3 l0_3.length c0_3) := (blk_cell BK195.out 3).trans rfl
              have hfz25_0 := blk_frozen BK195.out 0
              have hfz25_1 := blk_frozen BK195.out 1
              have hfz25_2 := blk_frozen BK195.out 2
              have hfz25_3 := blk_frozen BK195.out 3
              go_wp2
              go_ret
              exact ⟨by first | rfl | (simp [errW_none, errW_some] <;> rfl) | (simp [*, errW_none, errW_some] <;> rfl), by repeat (first | (with_reducible first | exact HB.out | apply below_alloc | apply pw_below_drewN | apply below_drew1 | refine below_set ?_ GE195.out) | exact HB.out)⟩
            · rw [if_neg c24] at H
              have c24b0 : decide (a2 < a1) = false := decide_eq_false c24
              clear c24
              obtain rfl := Option.some.inj H
              have hcz26_0 : wc.cell? ⟨gb195, 0, none⟩ = some (.int .i64 a0_0) := (blk_cell BK195.out 0).trans rfl
              have hcz26_1 : wc.cell? ⟨gb195, 1, none⟩ = some (.int .i64 a0_1) := (blk_cell BK195.out 1).trans rfl
              have hcz26_2 : wc.cell? ⟨gb195, 2, none⟩ = some (.int .i64 a0_2) := (blk_cell BK195.out 2).trans rfl
              have hcz26_3 : wc.cell? ⟨gb195, 3, none⟩ = some (.slice A0_3 l0_3.length c0_3) := (blk_cell BK195.out 3).trans rfl
              have hfz26_0 := blk_frozen BK195.out 0
              have hfz26_1 := blk_frozen BK195.out 1
              have hfz26_2 := blk_frozen BK195.out 2
              have hfz26_3 := blk_frozen BK195.out 3
              go_wp2
              go_ret
              exact ⟨by first | rfl | (simp [errW_none, errW_some] <;> rfl) | (simp [*, errW_none, errW_some] <;> rfl), by repeat (first | (with_reducible first | exact HB.out | apply below_alloc | apply pw_below_drewN | apply below_drew1 | refine below_set ?_ GE195.out) | exact HB.out)⟩
          · rw [if_neg c23] at H
            have c23b0 : decide (a0_1 < a1) = false := decide_eq_false c23
            clear c23
            by_cases c27 : a1 > a2
            · rw [if_pos c27] at H
              have c27b0 : decide (a2 < a1) = true := decide_eq_true c27
              clear c27
              by_cases c28 : t196 ≥ 0
              · rw [if_pos c28] at H
                have c28b0 : decide (0 ≤ t196) = true := decide_eq_true c28
                clear c28
                by_cases c29 : t196 ≤ (l0_3.length : Int)
                · rw [if_pos c29] at H
                  have c29b0 : decide (t196 ≤ (l0_3.length : Int)) = true := decide_eq_true c29
                  clear c29
                  by_cases c30 : t196 = 0
                  · rw [if_pos c30] at H
                    have c30b0 : (t196 == 0) = true := beq_iff_eq.mpr c30
                    have c30b1 : (t196 != 0) = false := bne_eq_false_iff_eq.mpr c30
                    clear c30
                    by_cases c31 : t196 = (l0_3.length : Int)
                    · rw [if_pos c31] at H
                      have c31b0 : (t196 == (l0_3.length : Int)) = true := beq_iff_eq.mpr c31
                      have c31b1 : (t196 != (l0_3.length : Int)) = false := bne_eq_false_iff_eq.mpr c31
                      clear c31
                      obtain rfl := Option.some.inj H
                      have hcz32_0 : wc.cell? ⟨gb195, 0, none⟩ = some (.int .i64 a0_0) := (blk_cell BK195.out 0).trans rfl
                      have hcz32_1 : wc.cell? ⟨gb195, 1, none⟩ = some (.int .i64 a0_1) := (blk_cell BK195.out 1).trans rfl
                      have hcz32_2 : wc.cell? ⟨gb195, 2, none⟩ = some (.int .i64 a0_2) := (blk_cell BK195.out 2).trans rfl
                      have hcz32_3 : wc.cell? ⟨gb195, 3, none⟩ = some (.slice A0_3 l0_3.length c0_3) := (blk_cell BK195.out 3).trans rfl
                      have hfz32_0 := blk_frozen BK195.out 0
                      have hfz32_1 := blk_frozen BK195.out 1
                      have hfz32_2 := blk_frozen BK195.out 2
                      have hfz32_3 := blk_frozen BK195.out 3
                      go_wp2
                      go_ret
                      exact ⟨by first | rfl | (simp [errW_none, errW_some] <;> rfl) | (simp [*, errW_none, errW_some] <;> rfl), by repeat (first | (with_reducible first | exact HB.out | apply below_alloc | apply pw_below_drewN | apply below_drew1 | refine below_set ?_ GE195.out) | exact HB.out)⟩
                    · rw [if_neg c31] at H
                      have c31b0 : (t196 == (l0_3.length : Int)) = false := beq_eq_false_iff_ne.mpr c31
                      have c31b1 : (t196 != (l0_3.length : Int)) = true := bne_iff_ne.mpr c31
                      by_cases c33 : 0 ≤ t196
                      · rw [if_pos c33] at H
                        have c33b0 : decide (0 ≤ t196) = true := decide_eq_true c33
                        clear c33
                        by_cases c34 : t196 < (l0_3.length : Int)
                        · rw [if_pos c34] at H
                          have c34b0 : decide (t196 < (l0_3.length : Int)) = true := decide_eq_true c34
                          clear c34
                          obtain rfl := Option.some.inj H
                          have hcz35_0 : wc.cell? ⟨gb195, 0, none⟩ = some (.int .i64 a0_0) := (blk_cell BK195.out 0).trans rfl
                          have hcz35_1 : wc.cell? ⟨gb195, 1, none⟩ = some (.int .i64 a0_1) := (blk_cell BK195.out 1).trans rfl
                          have hcz35_2 : wc.cell? ⟨gb195, 2, none⟩ = some (.int .i64 a0_2) := (blk_cell BK195.out 2).trans rfl
                          have hcz35_3 : wc.cell? ⟨gb195, 3, none⟩ = some (.slice A0_3 l0_3.length c0_3) := (blk_cell BK195.out 3).trans rfl
                          have hfz35_0 := blk_frozen BK195.out 0
                          have hfz35_1 := blk_frozen BK195.out 1
                          have hfz35_2 := blk_frozen BK195.out 2
                          have hfz35_3 := blk_frozen BK195.out 3
                          have p202 : 0 ≤ (t196 : Int) := of_decide_eq_true (by first | (with_reducible assumption) | assumption)
                          have q202 : t196 < (l0_3.length : Int) := of_decide_eq_true (by first | (with_reducible assumption) | assumption)
                          obtain ⟨ad202, e202, hx202_0⟩ := Kd.at_int HR0_3.out t196 p202 q202
                          cases e202
                          replace hx202_0 := (HB.out.cell (World.block_lt_of_cell? w _ hx202_0)).trans hx202_0
                          replace p202 := eq_true p202
                          replace q202 := eq_true q202
                          go_wp2
                          go_ret
                          exact ⟨by first | rfl | (simp [errW_none, errW_some] <;> rfl) | (simp [*, errW_none, errW_some] <;> rfl), by repeat (first | (with_reducible first | exact HB.out | apply below_alloc | apply pw_below_drewN | apply below_drew1 | refine below_set ?_ GE195.out) | exact HB.out)⟩
                        · rw [if_neg c34] at H
                          exact absurd H (by simp)
                      · rw [if_neg c33] at H
                        exact absurd H (by simp)
                  · rw [if_neg c30] at H
                    have c30b0 : (t196 == 0) = false := beq_eq_false_iff_ne.mpr c30
                    have c30b1 : (t196 != 0) = true := bne_iff_ne.mpr c30
                    obtain ⟨ji36, hji36⟩ : ∃ j_ : Int, (wrap64 (t196 - 1)) = j_ := ⟨_, rfl⟩
                    replace H : (if 0 ≤ (ji36) then (if (ji36) < (l0_3.length : Int) then (if (rd l0_3 (ji36)) ≤ a1 then (if t196 = (l0_3.length : Int) then (some true) else (if 0 ≤ t196 then (if t196 < (l0_3.length : Int) then (some (decide (a1 < (rd l0_3 t196)))) else (none)) else (none))) else (some false)) else (none)) else (none)) = some r := by first | (rw [hji36] at H; exact H) | (simp only [hji36] at H ⊢; exact H)
                    have hji36w : (IntKind.i64.wrap (t196 - 1)) = ji36 := (i64_w _).trans hji36
                    by_cases c37 : 0 ≤ (ji36)
                    · rw [if_pos c37] at H
                      have c37b0 : decide (0 ≤ (ji36)) = true := decide_eq_true c37
                      clear c37
                      by_cases c38 : (ji36) < (l0_3.length : Int)
                      · rw [if_pos c38] at H
                        have c38b0 : decide ((ji36) < (l0_3.length : Int)) = true := decide_eq_true c38
                        clear c38
                        by_cases c39 : (rd l0_3 (ji36)) ≤ a1
                        · rw [if_pos c39] at H
                          have c39b0 : decide ((rd l0_3 (ji36)) ≤ a1) = true := decide_eq_true c39
                          clear c39
                          by_cases c40 : t196 = (l0_3.length : Int)
                          · rw [if_pos c40] at H
                            have c40b0 : (t196 == (l0_3.length : Int)) = true := beq_iff_eq.mpr c40
                            have c40b1 : (t196 != (l0_3.length : Int)) = false := bne_eq_false_iff_eq.mpr c40
                            clear c40
                            obtain rfl := Option.some.inj H
                            have hcz41_0 : wc.cell? ⟨gb195, 0, none⟩ = some (.int .i64 a0_0) := (blk_cell BK195.out 0).trans rfl
                            have hcz41_1 : wc.cell? ⟨gb195, 1, none⟩ = some (.int .i64 a0_1) := (blk_cell BK195.out 1).trans rfl
                            have hcz41_2 : wc.cell? ⟨gb195, 2, none⟩ = some (.int .i64 a0_2) := (blk_cell BK195.out 2).trans rfl
                            have hcz41_3 : wc.cell? ⟨gb195, 3, none⟩ = some (.slice A0_3 l0_3.length c0_3) := (blk_cell BK195.out 3).trans rfl
                            have hfz41_0 := blk_frozen BK195.out 0
                            have hfz41_1 := blk_frozen BK195.out 1
                            have hfz41_2 := blk_frozen BK195.out 2
                            have hfz41_3 := blk_frozen BK195.out 3
                            have p203 : 0 ≤ ((ji36) : Int) := of_decide_eq_true (by first | (with_reducible assumption) | assumption)
                            have q203 : (ji36) < (l0_3.length : Int) := of_decide_eq_true (by first | (with_reducible assumption) | assumption)
                            obtain ⟨ad203, e203, hx203_0⟩ := Kd.at_int HR0_3.out (ji36) p203 q203
                            cases e203
                            replace hx203_0 := (HB.out.cell (World.block_lt_of_cell? w _ hx203_0)).trans hx203_0
                            replace p203 := eq_true p203
                            replace q203 := eq_true q203
                            go_wp2
                            go_ret
                            exact ⟨by first | rfl | (simp [errW_none, errW_some] <;> rfl) | (simp only [← hji36]; first | rfl | (simp [errW_none, errW_some] <;> rfl)) | (simp [*, errW_none, errW_some] <;> rfl), by repeat (first | (with_reducible first | exact HB.out | apply below_alloc | apply pw_below_drewN | apply below_drew1 | refine below_set ?_ GE195.out) | exact HB.out)⟩
                          · rw [if_neg c40] at H
                            have c40b0 : (t196 == (l0_3.length : Int)) = false := beq_eq_false_iff_ne.mpr c40
                            have c40b1 : (t196 != (l0_3.length : Int)) = true := bne_iff_ne.mpr c40
                            by_cases c42 : 0 ≤ t196
                            · rw [if_pos c42] at H
                              have c42b0 : decide (0 ≤ t196) = true := decide_eq_true c42
                              clear c42
                              by_cases c43 : t196 < (l0_3.length : Int)
                              · rw [if_pos c43] at H
                                have c43b0 : decide (t196 < (l0_3.length : Int)) = true := decide_eq_true c43
                                clear c43
                                obtain rfl := Option.some.inj H
                                have hcz44_0 : wc.cell? ⟨gb195, 0, none⟩ = some (.int .i64 a0_0) := (blk_cell BK195.out 0).trans rfl
                                have hcz44_1 : wc.cell? ⟨gb195, 1, none⟩ = some (.int .i64 a0_1) := (blk_cell BK195.out 1).trans rfl
                                have hcz44_2 : wc.cell? ⟨gb195, 2, none⟩ = some (.int .i64 a0_2) := (blk_cell BK195.out 2).trans rfl
                                have hcz44_3 : wc.cell? ⟨gb195, 3, none⟩ = some (.slice A0_3 l0_3.length c0_3) := (blk_cell BK195.out 3).trans rfl
                                have hfz44_0 := blk_frozen BK195.out 0
                                have hfz44_1 := blk_frozen BK195.out 1
                                have hfz44_2 := blk_frozen BK195.out 2
                                have hfz44_3 := blk_frozen BK195.out 3
                                have p203 : 0 ≤ ((ji36) : Int) := of_decide_eq_true (by first | (with_reducible assumption) | assumption)
                                have q203 : (ji36) < (l0_3.length : Int) := of_decide_eq_true (by first | (with_reducible assumption) | assumption)
                                obtain ⟨ad203, e203, hx203_0⟩ := Kd.at_int HR0_3.out (ji36) p203 q203
                                cases e203
                                replace hx203_0 := (HB.out.cell (World.block_lt_of_cell? w _ hx203_0)).trans hx203_0
                                replace p203 := eq_true p203
                                replace q203 := eq_true q203
                                have p204 : 0 ≤ (t196 : Int) := of_decide_eq_true (by first | (with_reducible assumption) | assumption)
                                have q204 : t196 < (l0_3.length : Int) := of_decide_eq_true (by first | (with_reducible assumption) | assumption)
                                obtain ⟨ad204, e204, hx204_0⟩ := Kd.at_int HR0_3.out t196 p204 q204
                                obtain rfl : ad203 = ad204 := (by injection e204)
                                replace hx204_0 := (HB.out.cell (World.block_lt_of_cell? w _ hx204_0)).trans hx204_0
                                replace p204 := eq_true p204
                                replace q204 := eq_true q204
                                go_wp2
                                go_ret
                                exact ⟨by first | rfl | (simp [errW_none, errW_some] <;> rfl) | (simp only [← hji36]; first | rfl | (simp [errW_none, errW_some] <;> rfl)) | (simp [*, errW_none, errW_some] <;> rfl), by repeat (first | (with_reducible first | exact HB.out | apply below_alloc | apply pw_below_drewN | apply below_drew1 | refine below_set ?_ GE195.out) | exact HB.out)⟩
                              · rw [if_neg c43] at H
                                exact absurd H (by simp)
                            · rw [if_neg c42] at H
                              exact absurd H (by simp)
                        · rw [if_neg c39] at H
                          have c39b0 : decide ((rd l0_3 (ji36)) ≤ a1) = false := decide_eq_false c39
                          clear c39
                          obtain rfl := Option.some.inj H
                          have hcz45_0 : wc.cell? ⟨gb195, 0, none⟩ = some (.int .i64 a0_0) := (blk_cell BK195.out 0).trans rfl
                          have hcz45_1 : wc.cell? ⟨gb195, 1, none⟩ = some (.int .i64 a0_1) := (blk_cell BK195.out 1).trans rfl
                          have hcz45_2 : wc.cell? ⟨gb195, 2, none⟩ = some (.int .i64 a0_2) := (blk_cell BK195.out 2).trans rfl
                          have hcz45_3 : wc.cell? ⟨gb195, 3, none⟩ = some (.slice A0_3 l0_3.length c0_3) := (blk_cell BK195.out 3).trans rfl
                          have hfz45_0 := blk_frozen BK195.out 0
                          have hfz45_1 := blk_frozen BK195.out 1
                          have hfz45_2 := blk_frozen BK195.out 2
                          have hfz45_3 := blk_frozen BK195.out 3
                          have p203 : 0 ≤ ((ji36) : Int) := of_decide_eq_true (by first | (with_reducible assumption) | assumption)
                          have q203 : (ji36) < (l0_3.length : Int) := of_decide_eq_true (by first | (with_reducible assumption) | assumption)
                          obtain ⟨ad203, e203, hx203_0⟩ := Kd.at_int HR0_3.out (ji36) p203 q203
                          cases e203
                          replace hx203_0 := (HB.out.cell (World.block_lt_of_cell? w _ hx203_0)).trans hx203_0
                          replace p203 := eq_true p203
                          replace q203 := eq_true q203
                          go_wp2
                          go_ret
                          exact ⟨by first | rfl | (simp [errW_none, errW_some] <;> rfl) | (simp only [← hji36]; first | rfl | (simp [errW_none, errW_some] <;> rfl)) | (simp [*, errW_none, errW_some] <;> rfl), by repeat (first | (with_reducible first | exact HB.out | apply below_alloc | apply pw_below_drewN | apply below_drew1 | refine below_set ?_ GE195.out) | exact HB.out)⟩
                      · rw [if_neg c38] at H
                        exact absurd H (by simp)
                    · rw [if_neg c37] at H
                      exact absurd H (by simp)
                · rw [if_neg c29] at H
                  have c29b0 : decide (t196 ≤ (l0_3.length : Int)) = false := decide_eq_false c29
                  clear c29
                  obtain rfl := Option.some.inj H
                  have hcz46_0 : wc.cell? ⟨gb195, 0, none⟩ = some (.int .i64 a0_0) := (blk_cell BK195.out 0).trans rfl
                  have hcz46_1 : wc.cell? ⟨gb195, 1, none⟩ = some (.int .i64 a0_1) := (blk_cell BK195.out 1).trans rfl
                  have hcz46_2 : wc.cell? ⟨gb195, 2, none⟩ = some (.int .i64 a0_2) := (blk_cell BK195.out 2).trans rfl
                  have hcz46_3 : wc.cell? ⟨gb195, 3, none⟩ = some (.slice A0_3 l0_3.length c0_3) := (blk_cell BK195.out 3).trans rfl
                  have hfz46_0 := blk_frozen BK195.out 0
                  have hfz46_1 := blk_frozen BK195.out 1
                  have hfz46_2 := blk_frozen BK195.out 2
                  have hfz46_3 := blk_frozen BK195.out 3
                  go_wp2
                  go_ret
                  exact ⟨by first | rfl | (simp [errW_none, errW_some] <;> rfl) | (simp [*, errW_none, errW_some] <;> rfl), by repeat (first | (with_reducible first | exact HB.out | apply below_alloc | apply pw_below_drewN | apply below_drew1 | refine below_set ?_ GE195.out) | exact HB.out)⟩
              · rw [if_neg c28] at H
                have c28b0 : decide (0 ≤ t196) = false := decide_eq_false c28
                clear c28
                obtain rfl := Option.some.inj H
                have hcz47_0 : wc.cell? ⟨gb195, 0, none⟩ = some (.int .i64 a0_0) := (blk_cell BK195.out 0).trans rfl
                have hcz47_1 : wc.cell? ⟨gb195, 1, none⟩ = some (.int .i64 a0_1) := (blk_cell BK195.out 1).trans rfl
                have hcz47_2 : wc.cell? ⟨gb195, 2, none⟩ = some (.int .i64 a0_2) := (blk_cell BK195.out 2).trans rfl
                have hcz47_3 : wc.cell? ⟨gb195, 3, none⟩ = some (.slice A0_3 l0_3.length c0_3) := (blk_cell BK195.out 3).trans rfl
                have hfz47_0 := blk_frozen BK195.out 0
                have hfz47_1 := blk_frozen BK195.out 1
                have hfz47_2 := blk_frozen BK195.out 2
                have hfz47_3 := blk_frozen BK195.out 3
                go_wp2
                go_ret
                exact ⟨by first | rfl | (simp [errW_none, errW_some] <;> rfl) | (simp [*, errW_none, errW_some] <;> rfl), by repeat (first | (with_reducible first | exact HB.out | apply below_alloc | apply pw_below_drewN | apply below_drew1 | refine below_set ?_ GE195.out) | exact HB.out)⟩
            · rw [if_neg c27] at H
              have c27b0 : decide (a2 < a1) = false := decide_eq_false c27
              clear c27
              by_cases c48 : t196 ≤ t198
              · rw [if_pos c48] at H
                have c48b0 : decide (t196 ≤ t198) = true := decide_eq_true c48
                clear c48
                by_cases c49 : t196 ≥ 0
                · rw [if_pos c49] at H
                  have c49b0 : decide (0 ≤ t196) = true := decide_eq_true c49
                  clear c49
                  by_cases c50 : t196 ≤ (l0_3.length : Int)
                  · rw [if_pos c50] at H
                    have c50b0 : decide (t196 ≤ (l0_3.length : Int)) = true := decide_eq_true c50
                    clear c50
                    by_cases c51 : t196 = 0
                    · rw [if_pos c51] at H
                      have c51b0 : (t196 == 0) = true := beq_iff_eq.mpr c51
                      have c51b1 : (t196 != 0) = false := bne_eq_false_iff_eq.mpr c51
                      clear c51
                      by_cases c52 : t196 = (l0_3.length : Int)
                      · rw [if_pos c52] at H
                        have c52b0 : (t196 == (l0_3.length : Int)) = true := beq_iff_eq.mpr c52
                        have c52b1 : (t196 != (l0_3.length : Int)) = false := bne_eq_false_iff_eq.mpr c52
                        clear c52
                        obtain rfl := Option.some.inj H
                        have hcz53_0 : wc.cell? ⟨gb195, 0, none⟩ = some (.int .i64 a0_0) := (blk_cell BK195.out 0).trans rfl
                        have hcz53_1 : wc.cell? ⟨gb195, 1, none⟩ = some (.int .i64 a0_1) := (blk_cell BK195.out 1).trans rfl
                        have hcz53_2 : wc.cell? ⟨gb195, 2, none⟩ = some (.int .i64 a0_2) := (blk_cell BK195.out 2).trans rfl
                        have hcz53_3 : wc.cell? ⟨gb195, 3, none⟩ = some (.slice A0_3 l0_3.length c0_3) := (blk_cell BK195.out 3).trans rfl
                        have hfz53_0 := blk_frozen BK195.out 0
                        have hfz53_1 := blk_frozen BK195.out 1
                        have hfz53_2 := blk_frozen BK195.out 2
                        have hfz53_3 := blk_frozen BK195.out 3
                        go_wp2
                        go_ret
                        exact ⟨by first | rfl | (simp [errW_none, errW_some] <;> rfl) | (simp [*, errW_none, errW_some] <;> rfl), by repeat (first | (with_reducible first | exact HB.out | apply below_alloc | apply pw_below_drewN | apply below_drew1 | refine below_set ?_ GE195.out) | exact HB.out)⟩
                      · rw [if_neg c52] at H
                        have c52b0 : (t196 == (l0_3.length : Int)) = false := beq_eq_false_iff_ne.mpr c52
                        have c52b1 : (t196 != (l0_3.length : Int)) = true := bne_iff_ne.mpr c52
                        by_cases c54 : 0 ≤ t196
                        · rw [if_pos c54] at H
                          have c54b0 : decide (0 ≤ t196) = true := decide_eq_true c54
                          clear c54
                          by_cases c55 : t196 < (l0_3.length : Int)
                          · rw [if_pos c55] at H
                            have c55b0 : decide (t196 < (l0_3.length : Int)) = true := decide_eq_true c55
                            clear c55
                            obtain rfl := Option.some.inj H
                            have hcz56_0 : wc.cell? ⟨gb195, 0, none⟩ = some (.int .i64 a0_0) := (blk_cell BK195.out 0).trans rfl
                            have hcz56_1 : wc.cell? ⟨gb195, 1, none⟩ = some (.int .i64 a0_1) := (blk_cell BK195.out 1).trans rfl
                            have hcz56_2 : wc.cell? ⟨gb195, 2, none⟩ = some (.int .i64 a0_2) := (blk_cell BK195.out 2).trans rfl
                            have hcz56_3 : wc.cell? ⟨gb195, 3, none⟩ = some (.slice A0_3 l0_3.length c0_3) := (blk_cell BK195.out 3).trans rfl
                            have hfz56_0 := blk_frozen BK195.out 0
                            have hfz56_1 := blk_frozen BK195.out 1
                            have hfz56_2 := blk_frozen BK195.out 2
                            have hfz56_3 := blk_frozen BK195.out 3
                            have p205 : 0 ≤ (t196 : Int) := of_decide_eq_true (by first | (with_reducible assumption) | assumption)
                            have q205 : t196 < (l0_3.length : Int) := of_decide_eq_true (by first | (with_reducible assumption) | assumption)
                            obtain ⟨ad205, e205, hx205_0⟩ := Kd.at_int HR0_3.out t196 p205 q205
                            cases e205
                            replace hx205_0 := (HB.out.cell (World.block_lt_of_cell? w _ hx205_0)).trans hx205_0
                            replace p205 := eq_true p205
                            replace q205 := eq_true q205
                            go_wp2
                            go_ret
                            exact ⟨by first | rfl | (simp [errW_none, errW_some] <;> rfl) | (simp [*, errW_none, errW_some] <;> rfl), by repeat (first | (with_reducible first | exact HB.out | apply below_alloc | apply pw_below_drewN | apply below_drew1 | refine below_set ?_ GE195.out) | exact HB.out)⟩
                          · rw [if_neg c55] at H
                            exact absurd H (by simp)
                        · rw [if_neg c54] at H
                          exact absurd H (by simp)
                    · rw [if_neg c51] at H
                      have c51b0 : (t196 == 0) = false := beq_eq_false_iff_ne.mpr c51
                      have c51b1 : (t196 != 0) = true := bne_iff_ne.mpr c51
                      obtain ⟨ji57, hji57⟩ : ∃ j_ : Int, (wrap64 (t196 - 1)) = j_ := ⟨_, rfl⟩
                      replace H : (if 0 ≤ (ji57) then (if (ji57) < (l0_3.length : Int) then (if (rd l0_3 (ji57)) ≤ a1 then (if t196 = (l0_3.length : Int) then (some true) else (if 0 ≤ t196 then (if t196 < (l0_3.length : Int) then (some (decide (a1 < (rd l0_3 t196)))) else (none)) else (none))) else (some false)) else (none)) else (none)) = some r := by first | (rw [hji57] at H; exact H) | (simp only [hji57] at H ⊢; exact H)
                      have hji57w : (IntKind.i64.wrap (t196 - 1)) = ji57 := (i64_w _).trans hji57
                      by_cases c58 : 0 ≤ (ji57)
                      · rw [if_pos c58] at H
                        have c58b0 : decide (0 ≤ (ji57)) = true := decide_eq_true c58
                        clear c58
                        by_cases c59 : (ji57) < (l0_3.length : Int)
                        · rw [if_pos c59] at H
                          have c59b0 : decide ((ji57) < (l0_3.length : Int)) = true := decide_eq_true c59
                          clear c59
                          by_cases c60 : (rd l0_3 (ji57)) ≤ a1
                          · rw [if_pos c60] at H
                            have c60b0 : decide ((rd l0_3 (ji57)) ≤ a1) = true := decide_eq_true c60
                            clear c60
                            by_cases c61 : t196 = (l0_3.length : Int)
                            · rw [if_pos c61] at H
                              have c61b0 : (t196 == (l0_3.length : Int)) = true := beq_iff_eq.mpr c61
                              have c61b1 : (t196 != (l0_3.length : Int)) = false := bne_eq_false_iff_eq.mpr c61
                              clear c61
                              obtain rfl := Option.some.inj H
                              have hcz62_0 : wc.cell? ⟨gb195, 0, none⟩ = some (.int .i64 a0_0) := (blk_cell BK195.out 0).trans rfl
                              have hcz62_1 : wc.cell? ⟨gb195, 1, none⟩ = some (.int .i64 a0_1) := (blk_cell BK195.out 1).trans rfl
                              have hcz62_2 : wc.cell? ⟨gb195, 2, none⟩ = some (.int .i64 a0_2) := (blk_cell BK195.out 2).trans rfl
                              have hcz62_3 : wc.cell? ⟨gb195, 3, none⟩ = some (.slice A0_3 l0_3.length c0_3) := (blk_cell BK195.out 3).trans rfl
                              have hfz62_0 := blk_frozen BK195.out 0
                              have hfz62_1 := blk_frozen BK195.out 1
                              have hfz62_2 := blk_frozen BK195.out 2
                              have hfz62_3 := blk_frozen BK195.out 3
                              have p206 : 0 ≤ ((ji57) : Int) := of_decide_eq_true (by first | (with_reducible assumption) | assumption)
                              have q206 : (ji57) < (l0_3.length : Int) := of_decide_eq_true (by first | (with_reducible assumption) | assumption)
                              obtain ⟨ad206, e206, hx206_0⟩ := Kd.at_int HR0_3.out (ji57) p206 q206
                              cases e206
                              replace hx206_0 := (HB.out.cell (World.block_lt_of_cell? w _ hx206_0)).trans hx206_0
                              replace p206 := eq_true p206
                              replace q206 := eq_true q206
                              go_wp2
                              go_ret
                              exact ⟨by first | rfl | (simp [errW_none, errW_some] <;> rfl) | (simp only [← hji57]; first | rfl | (simp [errW_none, errW_some] <;> rfl)) | (simp [*, errW_none, errW_some] <;> rfl), by repeat (first | (with_reducible first | exact HB.out | apply below_alloc | apply pw_below_drewN | apply below_drew1 | refine below_set ?_ GE195.out) | exact HB.out)⟩
                            · rw [if_neg c61] at H
                              have c61b0 : (t196 == (l0_3.length : Int)) = false := beq_eq_false_iff_ne.mpr c61
                              have c61b1 : (t196 != (l0_3.length : Int)) = true := bne_iff_ne.mpr c61
                              by_cases c63 : 0 ≤ t196
                              · rw [if_pos c63] at H
                                have c63b0 : decide (0 ≤ t196) = true := decide_eq_true c63
                                clear c63
                                by_cases c64 : t196 < (l0_3.length : Int)
                                · rw [if_pos c64] at H
                                  have c64b0 : decide (t196 < (l0_3.length : Int)) = true := decide_eq_true c64
                                  clear c64
                                  obtain rfl := Option.some.inj H
                                  have hcz65_0 : wc.cell? ⟨gb195, 0, none⟩ = some (.int .i64 a0_0) := (blk_cell BK195.out 0).trans rfl
                                  have hcz65_1 : wc.cell? ⟨gb195, 1, none⟩ = some (.int .i64 a0_1) := (blk_cell BK195.out 1).trans rfl
                                  have hcz65_2 : wc.cell? ⟨gb195, 2, none⟩ = some (.int .i64 a0_2) := (blk_cell BK195.out 2).trans rfl
                                  have hcz65_3 : wc.cell? ⟨gb195, 3, none⟩ = some (.slice A0_3 l0_3.length c0_3) := (blk_cell BK195.out 3).trans rfl
                                  have hfz65_0 := blk_frozen BK195.out 0
                                  have hfz65_1 := blk_frozen BK195.out 1
                                  have hfz65_2 := blk_frozen BK195.out 2
                                  have hfz65_3 := blk_frozen BK195.out 3
                                  have p206 : 0 ≤ ((ji57) : Int) := of_decide_eq_true (by first | (with_reducible assumption) | assumption)
                                  have q206 : (ji57) < (l0_3.length : Int) := of_decide_eq_true (by first | (with_reducible assumption) | assumption)
                                  obtain ⟨ad206, e206, hx206_0⟩ := Kd.at_int HR0_3.out (ji57) p206 q206
                                  cases e206
                                  replace hx206_0 := (HB.out.cell (World.block_lt_of_cell? w _ hx206_0)).trans hx206_0
                                  replace p206 := eq_true p206
                                  replace q206 := eq_true q206
                                  have p207 : 0 ≤ (t196 : Int) := of_decide_eq_true (by first | (with_reducible assumption) | assumption)
                                  have q207 : t196 < (l0_3.length : Int) := of_decide_eq_true (by first | (with_reducible assumption) | assumption)
                                  obtain ⟨ad207, e207, hx207_0⟩ := Kd.at_int HR0_3.out t196 p207 q207
                                  obtain rfl : ad206 = ad207 := (by injection e207)
                                  replace hx207_0 := (HB.out.cell (World.block_lt_of_cell? w _ hx207_0)).trans hx207_0
                                  replace p207 := eq_true p207
                                  replace q207 := eq_true q207
                                  go_wp2
                                  go_ret
                                  exact ⟨by first | rfl | (simp [errW_none, errW_some] <;> rfl) | (simp only [← hji57]; first | rfl | (simp [errW_none, errW_some] <;> rfl)) | (simp [*, errW_none, errW_some] <;> rfl), by repeat (first | (with_reducible first | exact HB.out | apply below_alloc | apply pw_below_drewN | apply below_drew1 | refine below_set ?_ GE195.out) | exact HB.out)⟩
                                · rw [if_neg c64] at H
                                  exact absurd H (by simp)
                              · rw [if_neg c63] at H
                                exact absurd H (by simp)
                          · rw [if_neg c60] at H
                            have c60b0 : decide ((rd l0_3 (ji57)) ≤ a1) = false := decide_eq_false c60
                            clear c60
                            obtain rfl := Option.some.inj H
                            have hcz66_0 : wc.cell? ⟨gb195, 0, none⟩ = some (.int .i64 a0_0) := (blk_cell BK195.out 0).trans rfl
                            have hcz66_1 : wc.cell? ⟨gb195, 1, none⟩ = some (.int .i64 a0_1) := (blk_cell BK195.out 1).trans rfl
                            have hcz66_2 : wc.cell? ⟨gb195, 2, none⟩ = some (.int .i64 a0_2) := (blk_cell BK195.out 2).trans rfl
                            have hcz66_3 : wc.cell? ⟨gb195, 3, none⟩ = some (.slice A0_3 l0_3.length c0_3) := (blk_cell BK195.out 3).trans rfl
                            have hfz66_0 := blk_frozen BK195.out 0
                            have hfz66_1 := blk_frozen BK195.out 1
                            have hfz66_2 := blk_frozen BK195.out 2
                            have hfz66_3 := blk_frozen BK195.out 3
                            have p206 : 0 ≤ ((ji57) : Int) := of_decide_eq_true (by first | (with_reducible assumption) | assumption)
                            have q206 : (ji57) < (l0_3.length : Int) := of_decide_eq_true (by first | (with_reducible assumption) | assumption)
                            obtain ⟨ad206, e206, hx206_0⟩ := Kd.at_int HR0_3.out (ji57) p206 q206
                            cases e206
                            replace hx206_0 := (HB.out.cell (World.block_lt_of_cell? w _ hx206_0)).trans hx206_0
                            replace p206 := eq_true p206
                            replace q206 := eq_true q206
                            go_wp2
                            go_ret
                            exact ⟨by first | rfl | (simp [errW_none, errW_some] <;> rfl) | (simp only [← hji57]; first | rfl | (simp [errW_none, errW_some] <;> rfl)) | (simp [*, errW_none, errW_some] <;> rfl), by repeat (first | (with_reducible first | exact HB.out | apply below_alloc | apply pw_below_drewN | apply below_drew1 | refine below_set ?_ GE195.out) | exact HB.out)⟩
                        · rw [if_neg c59] at H
                          exact absurd H (by simp)
                      · rw [if_neg c58] at H
                        exact absurd H (by simp)
                  · rw [if_neg c50] at H
                    have c50b0 : decide (t196 ≤ (l0_3.length : Int)) = false := decide_eq_false c50
                    clear c50
                    obtain rfl := Option.some.inj H
                    have hcz67_0 : wc.cell? ⟨gb195, 0, none⟩ = some (.int .i64 a0_0) := (blk_cell BK195.out 0).trans rfl
                    have hcz67_1 : wc.cell? ⟨gb195, 1, none⟩ = some (.int .i64 a0_1) := (blk_cell BK195.out 1).trans rfl
                    have hcz67_2 : wc.cell? ⟨gb195, 2, none⟩ = some (.int .i64 a0_2) := (blk_cell BK195.out 2).trans rfl
                    have hcz67_3 : wc.cell? ⟨gb195, 3, none⟩ = some (.slice A0_3 l0_3.length c0_3) := (blk_cell BK195.out 3).trans rfl
                    have hfz67_0 := blk_frozen BK195.out 0
                    have hfz67_1 := blk_frozen BK195.out 1
                    have hfz67_2 := blk_frozen BK195.out 2
                    have hfz67_3 := blk_frozen BK195.out 3
                    go_wp2
                    go_ret
                    exact ⟨by first | rfl | (simp [errW_none, errW_some] <;> rfl) | (simp [*, errW_none, errW_some] <;> rfl), by repeat (first | (with_reducible first | exact HB.out | apply below_alloc | apply pw_below_drewN | apply below_drew1 | refine below_set ?_ GE195.out) | exact HB.out)⟩
                · rw [if_neg c49] at H
                  have c49b0 : decide (0 ≤ t196) = false := decide_eq_false c49
                  clear c49
                  obtain rfl := Option.some.inj H
                  have hcz68_0 : wc.cell? ⟨gb195, 0, none⟩ = some (.int .i64 a0_0) := (blk_cell BK195.out 0).trans rfl
                  have hcz68_1 : wc.cell? ⟨gb195, 1, none⟩ = some (.int .i64 a0_1) := (blk_cell BK195.out 1).trans rfl
                  have hcz68_2 : wc.cell? ⟨gb195, 2, none⟩ = some (.int .i64 a0_2) := (blk_cell BK195.out 2).trans rfl
                  have hcz68_3 : wc.cell? ⟨gb195, 3, none⟩ = some (.slice A0_3 l0_3.length c0_3) := (blk_cell BK195.out 3).trans rfl
                  have hfz68_0 := blk_frozen BK195.out 0
                  have hfz68_1 := blk_frozen BK195.out 1
                  have hfz68_2 := blk_frozen BK195.out 2
                  have hfz68_3 := blk_frozen BK195.out 3
                  go_wp2
                  go_ret
                  exact ⟨by first | rfl | (simp [errW_none, errW_some] <;> rfl) | (simp [*, errW_none, errW_some] <;> rfl), by repeat (first | (with_reducible first | exact HB.out | apply below_alloc | apply pw_below_drewN | apply below_drew1 | refine below_set ?_ GE195.out) | exact HB.out)⟩
              · rw [if_neg c48] at H
                have c48b0 : decide (t196 ≤ t198) = false := decide_eq_false c48
                clear c48
                obtain rfl := Option.some.inj H
                have hcz69_0 : wc.cell? ⟨gb195, 0, none⟩ = some (.int .i64 a0_0) := (blk_cell BK195.out 0).trans rfl
                have hcz69_1 : wc.cell? ⟨gb195, 1, none⟩ = some (.int .i64 a0_1) := (blk_cell BK195.out 1).trans rfl
                have hcz69_2 : wc.cell? ⟨gb195, 2, none⟩ = some (.int .i64 a0_2) := (blk_cell BK195.out 2).trans rfl
                have hcz69_3 : wc.cell? ⟨gb195, 3, none⟩ = some (.slice A0_3 l0_3.length c0_3) := (blk_cell BK195.out 3).trans rfl
                have hfz69_0 := blk_frozen BK195.out 0
                have hfz69_1 := blk_frozen BK195.out 1
                have hfz69_2 := blk_frozen BK195.out 2
                have hfz69_3 := blk_frozen BK195.out 3
                go_wp2
                go_ret
                exact ⟨by first | rfl | (simp [errW_none, errW_some] <;> rfl) | (simp [*, errW_none, errW_some] <;> rfl), by repeat (first | (with_reducible first | exact HB.out | apply below_alloc | apply pw_below_drewN | apply below_drew1 | refine below_set ?_ GE195.out) | exact HB.out)⟩

end Go.Proofs.Ytnceljfilcepcaa.PAll
