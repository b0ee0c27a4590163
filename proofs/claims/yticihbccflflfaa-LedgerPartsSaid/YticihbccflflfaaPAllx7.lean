/- The Go functions that the laws reach, as Lean functions, and that each call comes to what its function says. Written by a program of this session (a turned copy of the kit's print). No condition beyond those that each theorem states. -/
import Derived.Test.YticihbccflflfaaPAllx0
import Derived.Test.YticihbccflflfaaPAllx2
namespace Go.Proofs.Yticihbccflflfaa.PAll
open Go.RowKit Go.Proofs.YticihbccflflfaaW.PrintWords Go.Proofs.YticihbccflflfaaW.PrintLast Go.Proofs.YticihbccflflfaaW.PrintMore
attribute [local go_sem] max2_int min2_int max_two min_two max_three min_three max_four min_four   -- for this text's walks alone
set_option linter.unusedVariables false
set_option linter.unusedSimpArgs false

/-! ### offertoryref09_Sound: function 13 -/
mutual
def offertoryref09_Sound.j0 : Nat → Bool → Int → Int → Int → List Int → Option (Int)
  | 0, _, _, _, _, _ => none
  | k + 1, x31, x217000, x217001, x217002, x217003 => if x31 = true then (some 4) else (if x217002 < 1 then (offertoryref09_Sound.j1 k true x217000 x217001 x217002 x217003) else (offertoryref09_Sound.j1 k (decide (x217002 > 65536)) x217000 x217001 x217002 x217003))
def offertoryref09_Sound.j1 : Nat → Bool → Int → Int → Int → List Int → Option (Int)
  | 0, _, _, _, _, _ => none
  | k + 1, x39, x217000, x217001, x217002, x217003 => if x39 = true then (some 9) else (if (x217003.length : Int) > 64 then (some 10) else (offertoryref09_Sound.l0 k 1 x217000 x217001 x217002 x217003))
def offertoryref09_Sound.l0 : Nat → Int → Int → Int → Int → List Int → Option (Int)
  | 0, _, _, _, _, _ => none
  | k + 1, x4, x217000, x217001, x217002, x217003 => if x4 < (x217003.length : Int) then (if 0 ≤ (wrap64 (x4 - 1)) then (if (wrap64 (x4 - 1)) < (x217003.length : Int) then (if 0 ≤ x4 then (if (rd x217003 (wrap64 (x4 - 1))) ≥ (rd x217003 x4) then (some 10) else (offertoryref09_Sound.l0 k (wrap64 (x4 + 1)) x217000 x217001 x217002 x217003)) else (none)) else (none)) else (none)) else (some 0)
end
def offertoryref09_Sound.f (k : Nat) (a0_0 : Int) (a0_1 : Int) (a0_2 : Int) (l0_3 : List Int) : Option (Int) := if a0_0 < (-1099511627776) then (offertoryref09_Sound.j0 k true a0_0 a0_1 a0_2 l0_3) else (if a0_1 > 1099511627776 then (offertoryref09_Sound.j0 k true a0_0 a0_1 a0_2 l0_3) else (if a0_0 > a0_1 then (offertoryref09_Sound.j0 k true a0_0 a0_1 a0_2 l0_3) else (offertoryref09_Sound.j0 k (decide ((wrap64 (a0_1 - a0_0)) ≥ 1099511627776)) a0_0 a0_1 a0_2 l0_3)))
theorem offertoryref09_Sound.mono_l : ∀ k, (∀ y0 y1 y2 y3 y4, LeO (offertoryref09_Sound.j0 k y0 y1 y2 y3 y4) (offertoryref09_Sound.j0 (k + 1) y0 y1 y2 y3 y4)) ∧ (∀ y0 y1 y2 y3 y4, LeO (offertoryref09_Sound.j1 k y0 y1 y2 y3 y4) (offertoryref09_Sound.j1 (k + 1) y0 y1 y2 y3 y4)) ∧ (∀ y0 y1 y2 y3 y4, LeO (offertoryref09_Sound.l0 k y0 y1 y2 y3 y4) (offertoryref09_Sound.l0 (k + 1) y0 y1 y2 y3 y4))
  | 0 => ⟨fun _ _ _ _ _ r h => by simp [offertoryref09_Sound.j0] at h, fun _ _ _ _ _ r h => by simp [offertoryref09_Sound.j1] at h, fun _ _ _ _ _ r h => by simp [offertoryref09_Sound.l0] at h⟩
  | k + 1 => by
    obtain ⟨ih0, ih1, ih2⟩ := offertoryref09_Sound.mono_l k
    refine ⟨?_, ?_, ?_⟩
    · intro y0 y1 y2 y3 y4
      unfold offertoryref09_Sound.j0
      repeat' first
      | (with_reducible exact ih0 _ _ _ _ _)
      | (with_reducible exact ih1 _ _ _ _ _)
      | (with_reducible exact ih2 _ _ _ _ _)
      | (with_reducible exact LeO.refl _)
      | (with_reducible exact LeO.none _)
      | (with_reducible refine LeO.ite ?_ ?_)
      | (with_reducible refine LeO.bind ?_ (fun _ => ?_))
      | exact ih0 _ _ _ _ _
      | exact ih1 _ _ _ _ _
      | exact ih2 _ _ _ _ _
      | exact LeO.none _
      | refine LeO.ite ?_ ?_
      | refine LeO.bind ?_ (fun _ => ?_)
    · intro y0 y1 y2 y3 y4
      unfold offertoryref09_Sound.j1
      repeat' first
      | (with_reducible exact ih0 _ _ _ _ _)
      | (with_reducible exact ih1 _ _ _ _ _)
      | (with_reducible exact ih2 _ _ _ _ _)
      | (with_reducible exact LeO.refl _)
      | (with_reducible exact LeO.none _)
      | (with_reducible refine LeO.ite ?_ ?_)
      | (with_reducible refine LeO.bind ?_ (fun _ => ?_))
      | exact ih0 _ _ _ _ _
      | exact ih1 _ _ _ _ _
      | exact ih2 _ _ _ _ _
      | exact LeO.none _
      | refine LeO.ite ?_ ?_
      | refine LeO.bind ?_ (fun _ => ?_)
    · intro y0 y1 y2 y3 y4
      unfold offertoryref09_Sound.l0
      repeat' first
      | (with_reducible exact ih0 _ _ _ _ _)
      | (with_reducible exact ih1 _ _ _ _ _)
      | (with_reducible exact ih2 _ _ _ _ _)
      | (with_reducible exact LeO.refl _)
      | (with_reducible exact LeO.none _)
      | (with_reducible refine LeO.ite ?_ ?_)
      | (with_reducible refine LeO.bind ?_ (fun _ => ?_))
      | exact ih0 _ _ _ _ _
      | exact ih1 _ _ _ _ _
      | exact ih2 _ _ _ _ _
      | exact LeO.none _
      | refine LeO.ite ?_ ?_
      | refine LeO.bind ?_ (fun _ => ?_)
theorem offertoryref09_Sound.mono : ∀ a0 a1 a2 a3 k, LeO (offertoryref09_Sound.f k a0 a1 a2 a3) (offertoryref09_Sound.f (k + 1) a0 a1 a2 a3) := by
  intro a0 a1 a2 a3 k
  obtain ⟨ih0, ih1, ih2⟩ := offertoryref09_Sound.mono_l k
  unfold offertoryref09_Sound.f
  repeat' first
      | (with_reducible exact ih0 _ _ _ _ _)
      | (with_reducible exact ih1 _ _ _ _ _)
      | (with_reducible exact ih2 _ _ _ _ _)
      | (with_reducible exact LeO.refl _)
      | (with_reducible exact LeO.none _)
      | (with_reducible refine LeO.ite ?_ ?_)
      | (with_reducible refine LeO.bind ?_ (fun _ => ?_))
      | exact ih0 _ _ _ _ _
      | exact ih1 _ _ _ _ _
      | exact ih2 _ _ _ _ _
      | exact LeO.none _
      | refine LeO.ite ?_ ?_
      | refine LeO.bind ?_ (fun _ => ?_)
set_option maxHeartbeats 8000000 in
set_option maxRecDepth 100000 in
theorem offertoryref09_Sound.calls (k : Nat) (a0_0 : Int) (a0_1 : Int) (a0_2 : Int) (A0_3 : Option Addr) (c0_3 : Nat) (l0_3 : List Int) (r : Int) (w : World) (hr0_3 : Kd.C (Kd.int .i64) w A0_3 l0_3.length l0_3) (hc0_3 : l0_3.length ≤ c0_3) (h : offertoryref09_Sound.f k a0_0 a0_1 a0_2 l0_3 = some r) :
    Calls Try.prog 13 #[.agg #[.int .i64 a0_0, .int .i64 a0_1, .int .i64 a0_2, .slice A0_3 l0_3.length c0_3]] w fun e w' => e = .returned (.int .i64 r) ∧ Below w.heap.size w w' := by
  have hu38 := Try.underlying38
  have HR0_3 := Aside0.mk hr0_3
  have HC0_3 := Aside0.mk hc0_3
  clear hr0_3 hc0_3
  have HB := Aside0.mk (Below.refl w.heap.size w)
  have H : (if a0_0 < (-1099511627776) then (offertoryref09_Sound.j0 k true a0_0 a0_1 a0_2 l0_3) else (if a0_1 > 1099511627776 then (offertoryref09_Sound.j0 k true a0_0 a0_1 a0_2 l0_3) else (if a0_0 > a0_1 then (offertoryref09_Sound.j0 k true a0_0 a0_1 a0_2 l0_3) else (offertoryref09_Sound.j0 k (decide ((wrap64 (a0_1 - a0_0)) ≥ 1099511627776)) a0_0 a0_1 a0_2 l0_3)))) = some r := h
  clear h
  have HC2 := Aside0.mk H
  clear H
  go_enter Try.func13, Try.ntmps13
  go_upto_region 2 with (first | ((with_reducible refine gate_dst (N := 1) rfl ?_); refine box_event ?hg (N := 1) ?hd (cs := #[.int .i64 a0_0, .int .i64 a0_1, .int .i64 a0_2, .slice A0_3 l0_3.length c0_3]) (t := 38) ?hr ?_; (case hd => rfl); (case hg => rfl); (case hr => first | (go_simp; done) | (go_simp; rfl)); intro gb216 hg w3 hbox hb; have n0_ := Aside0.mk (below_step (by repeat (first | (with_reducible first | exact HB.out | apply below_alloc | apply pw_below_drewN | apply below_drew1) | exact HB.out)) hb); have n1_ := Aside0.mk (hbox); have n2_ := Aside0.mk ((by rw [hg]; exact (below_size (by repeat (first | (with_reducible first | exact HB.out | apply below_alloc | apply pw_below_drewN | apply below_drew1) | exact HB.out))) : w.heap.size ≤ gb216)); have n3_ := Aside0.mk ((by rw [hg]; exact (below_size (by repeat (first | (with_reducible first | exact HB.out | apply below_alloc | apply pw_below_drewN | apply below_drew1) | exact HB.out))) : w.heap.size ≤ gb216)); clear HB; have HB := n0_; have BK216 := n1_; have GW216 := n2_; have GE216 := n3_; clear n0_ n1_ n2_ n3_; clear hb hbox hg))
  repeat (go_quiet (first | ((with_reducible refine gate_dst (N := 1) rfl ?_); refine box_event ?hg (N := 1) ?hd (cs := #[.int .i64 a0_0, .int .i64 a0_1, .int .i64 a0_2, .slice A0_3 l0_3.length c0_3]) (t := 38) ?hr ?_; (case hd => rfl); (case hg => rfl); (case hr => first | (go_simp; done) | (go_simp; rfl)); intro gb216 hg w3 hbox hb; have n0_ := Aside0.mk (below_step (by repeat (first | (with_reducible first | exact HB.out | apply below_alloc | apply pw_below_drewN | apply below_drew1) | exact HB.out)) hb); have n1_ := Aside0.mk (hbox); have n2_ := Aside0.mk ((by rw [hg]; exact (below_size (by repeat (first | (with_reducible first | exact HB.out | apply below_alloc | apply pw_below_drewN | apply below_drew1) | exact HB.out))) : w.heap.size ≤ gb216)); have n3_ := Aside0.mk ((by rw [hg]; exact (below_size (by repeat (first | (with_reducible first | exact HB.out | apply below_alloc | apply pw_below_drewN | apply below_drew1) | exact HB.out))) : w.heap.size ≤ gb216)); clear HB; have HB := n0_; have BK216 := n1_; have GW216 := n2_; have GE216 := n3_; clear n0_ n1_ n2_ n3_; clear hb hbox hg)); go_upto_region 2 with (first | ((with_reducible refine gate_dst (N := 1) rfl ?_); refine box_event ?hg (N := 1) ?hd (cs := #[.int .i64 a0_0, .int .i64 a0_1, .int .i64 a0_2, .slice A0_3 l0_3.length c0_3]) (t := 38) ?hr ?_; (case hd => rfl); (case hg => rfl); (case hr => first | (go_simp; done) | (go_simp; rfl)); intro gb216 hg w3 hbox hb; have n0_ := Aside0.mk (below_step (by repeat (first | (with_reducible first | exact HB.out | apply below_alloc | apply pw_below_drewN | apply below_drew1) | exact HB.out)) hb); have n1_ := Aside0.mk (hbox); have n2_ := Aside0.mk ((by rw [hg]; exact (below_size (by repeat (first | (with_reducible first | exact HB.out | apply below_alloc | apply pw_below_drewN | apply below_drew1) | exact HB.out))) : w.heap.size ≤ gb216)); have n3_ := Aside0.mk ((by rw [hg]; exact (below_size (by repeat (first | (with_reducible first | exact HB.out | apply below_alloc | apply pw_below_drewN | apply below_drew1) | exact HB.out))) : w.heap.size ≤ gb216)); clear HB; have HB := n0_; have BK216 := n1_; have GW216 := n2_; have GE216 := n3_; clear n0_ n1_ n2_ n3_; clear hb hbox hg)))
  (try simp only [Act.put, List.setIfInBounds_toArray, List.set_cons_zero, List.set_cons_succ])
  go_cut [31] (fun v31 wc => ∃ (kq : Nat) (x31_1 : Bool), v31 = .bool x31_1 ∧ Aside0 (offertoryref09_Sound.j0 kq x31_1 a0_0 a0_1 a0_2 l0_3 = some r) ∧ Aside0 (kq ≤ k) ∧ Aside0 (wc.heap[gb216]? = some (.cells #[.int .i64 a0_0, .int .i64 a0_1, .int .i64 a0_2, (.slice A0_3 l0_3.length c0_3)] 38 (0, 0))) ∧ Aside0 (Below w.heap.size w wc))
  case first =>
    have H := HC2.out
    clear HC2
    by_cases c4 : a0_0 < (-1099511627776)
    · rw [if_pos c4] at H
      have c4b0 : decide (a0_0 < (-1099511627776)) = true := decide_eq_true c4
      clear c4
      (first | rw [c4b0] | (simp only [i64_w, i32_w]; rw [c4b0]) | skip)
      have H' := Aside0.mk H
      clear H
      have hcz5_0 : w3.cell? ⟨gb216, 0, none⟩ = some (.int .i64 a0_0) := (blk_cell BK216.out 0).trans rfl
      have hcz5_1 : w3.cell? ⟨gb216, 1, none⟩ = some (.int .i64 a0_1) := (blk_cell BK216.out 1).trans rfl
      have hcz5_2 : w3.cell? ⟨gb216, 2, none⟩ = some (.int .i64 a0_2) := (blk_cell BK216.out 2).trans rfl
      have hcz5_3 : w3.cell? ⟨gb216, 3, none⟩ = some (.slice A0_3 l0_3.length c0_3) := (blk_cell BK216.out 3).trans rfl
      have hfz5_0 := blk_frozen BK216.out 0
      have hfz5_1 := blk_frozen BK216.out 1
      have hfz5_2 := blk_frozen BK216.out 2
      have hfz5_3 := blk_frozen BK216.out 3
      go_wp2
      repeat (go_quiet (fail); try go_wp2)
      go_meet
      case rel => exact ⟨_, (true), (by first | rfl | (simp; done) | (simp [*]; done)), H', ⟨by first | omega | exact Nat.le_refl _⟩, ⟨by (with_reducible repeat (first | refine blk_drewN ?_ _ | refine blk_drew ?_ | refine blk_alloc ?_ _)); exact BK216.out⟩, ⟨by repeat (first | (with_reducible first | exact HB.out | apply below_alloc | apply pw_below_drewN | apply below_drew1 | refine below_set ?_ GE216.out) | exact HB.out)⟩⟩
    · rw [if_neg c4] at H
      have c4b0 : decide (a0_0 < (-1099511627776)) = false := decide_eq_false c4
      clear c4
      (first | rw [c4b0] | (simp only [i64_w, i32_w]; rw [c4b0]) | skip)
      by_cases c6 : a0_1 > 1099511627776
      · rw [if_pos c6] at H
        have c6b0 : decide (1099511627776 < a0_1) = true := decide_eq_true c6
        clear c6
        have H' := Aside0.mk H
        clear H
        have hcz7_0 : w3.cell? ⟨gb216, 0, none⟩ = some (.int .i64 a0_0) := (blk_cell BK216.out 0).trans rfl
        have hcz7_1 : w3.cell? ⟨gb216, 1, none⟩ = some (.int .i64 a0_1) := (blk_cell BK216.out 1).trans rfl
        have hcz7_2 : w3.cell? ⟨gb216, 2, none⟩ = some (.int .i64 a0_2) := (blk_cell BK216.out 2).trans rfl
        have hcz7_3 : w3.cell? ⟨gb216, 3, none⟩ = some (.slice A0_3 l0_3.length c0_3) := (blk_cell BK216.out 3).trans rfl
        have hfz7_0 := blk_frozen BK216.out 0
        have hfz7_1 := blk_frozen BK216.out 1
        have hfz7_2 := blk_frozen BK216.out 2
        have hfz7_3 := blk_frozen BK216.out 3
        go_wp2
        repeat (go_quiet (fail); try go_wp2)
        go_meet
        case rel => exact ⟨_, (true), (by first | rfl | (simp; done) | (simp [*]; done)), H', ⟨by first | omega | exact Nat.le_refl _⟩, ⟨by (with_reducible repeat (first | refine blk_drewN ?_ _ | refine blk_drew ?_ | refine blk_alloc ?_ _)); exact BK216.out⟩, ⟨by repeat (first | (with_reducible first | exact HB.out | apply below_alloc | apply pw_below_drewN | apply below_drew1 | refine below_set ?_ GE216.out) | exact HB.out)⟩⟩
      · rw [if_neg c6] at H
        have c6b0 : decide (1099511627776 < a0_1) = false := decide_eq_false c6
        clear c6
        by_cases c8 : a0_0 > a0_1
        · rw [if_pos c8] at H
          have c8b0 : decide (a0_1 < a0_0) = true := decide_eq_true c8
          clear c8
          have H' := Aside0.mk H
          clear H
          have hcz9_0 : w3.cell? ⟨gb216, 0, none⟩ = some (.int .i64 a0_0) := (blk_cell BK216.out 0).trans rfl
          have hcz9_1 : w3.cell? ⟨gb216, 1, none⟩ = some (.int .i64 a0_1) := (blk_cell BK216.out 1).trans rfl
          have hcz9_2 : w3.cell? ⟨gb216, 2, none⟩ = some (.int .i64 a0_2) := (blk_cell BK216.out 2).trans rfl
          have hcz9_3 : w3.cell? ⟨gb216, 3, none⟩ = some (.slice A0_3 l0_3.length c0_3) := (blk_cell BK216.out 3).trans rfl
          have hfz9_0 := blk_frozen BK216.out 0
          have hfz9_1 := blk_frozen BK216.out 1
          have hfz9_2 := blk_frozen BK216.out 2
          have hfz9_3 := blk_frozen BK216.out 3
          go_wp2
          repeat (go_quiet (fail); try go_wp2)
          go_meet
          case rel => exact ⟨_, (true), (by first | rfl | (simp; done) | (simp [*]; done)), H', ⟨by first | omega | exact Nat.le_refl _⟩, ⟨by (with_reducible repeat (first | refine blk_drewN ?_ _ | refine blk_drew ?_ | refine blk_alloc ?_ _)); exact BK216.out⟩, ⟨by repeat (first | (with_reducible first | exact HB.out | apply below_alloc | apply pw_below_drewN | apply below_drew1 | refine below_set ?_ GE216.out) | exact HB.out)⟩⟩
        · rw [if_neg c8] at H
          have c8b0 : decide (a0_1 < a0_0) = false := decide_eq_false c8
          clear c8
          have H' := Aside0.mk H
          clear H
          have hcz10_0 : w3.cell? ⟨gb216, 0, none⟩ = some (.int .i64 a0_0) := (blk_cell BK216.out 0).trans rfl
          have hcz10_1 : w3.cell? ⟨gb216, 1, none⟩ = some (.int .i64 a0_1) := (blk_cell BK216.out 1).trans rfl
          have hcz10_2 : w3.cell? ⟨gb216, 2, none⟩ = some (.int .i64 a0_2) := (blk_cell BK216.out 2).trans rfl
          have hcz10_3 : w3.cell? ⟨gb216, 3, none⟩ = some (.slice A0_3 l0_3.length c0_3) := (blk_cell BK216.out 3).trans rfl
          have hfz10_0 := blk_frozen BK216.out 0
          have hfz10_1 := blk_frozen BK216.out 1
          have hfz10_2 := blk_frozen BK216.out 2
          have hfz10_3 := blk_frozen BK216.out 3
          go_wp2
          repeat (go_quiet (fail); try go_wp2)
          go_meet
          case rel => exact ⟨_, (decide ((wrap64 (a0_1 - a0_0)) ≥ 1099511627776)), (by first | rfl | (simp; done) | (simp [*]; done)), H', ⟨by first | omega | exact Nat.le_refl _⟩, ⟨by (with_reducible repeat (first | refine blk_drewN ?_ _ | refine blk_drew ?_ | refine blk_alloc ?_ _)); exact BK216.out⟩, ⟨by repeat (first | (with_reducible first | exact HB.out | apply below_alloc | apply pw_below_drewN | apply below_drew1 | refine below_set ?_ GE216.out) | exact HB.out)⟩⟩
  case rest =>
    clear HC2
    try clear c1
    try clear p2
    try clear c4
    try clear c4b0
    try clear c6
    try clear c6b0
    try clear p6
    try clear c8
    try clear c8b0
    try clear hcz10_0
    try clear hcz10_1
    try clear hcz10_2
    try clear hcz10_3
    try clear hcz5_0
    try clear hcz5_1
    try clear hcz5_2
    try clear hcz5_3
    try clear hcz7_0
    try clear hcz7_1
    try clear hcz7_2
    try clear hcz7_3
    try clear hcz9_0
    try clear hcz9_1
    try clear hcz9_2
    try clear hcz9_3
    try clear hfz10_0
    try clear hfz10_1
    try clear hfz10_2
    try clear hfz10_3
    try clear hfz5_0
    try clear hfz5_1
    try clear hfz5_2
    try clear hfz5_3
    try clear hfz7_0
    try clear hfz7_1
    try clear hfz7_2
    try clear hfz7_3
    try clear hfz9_0
    try clear hfz9_1
    try clear hfz9_2
    try clear hfz9_3
    obtain ⟨kq, x31_1, rfl, HA, HJ1, BK216, HB⟩ := hcut
    cases kq with
    | zero => exact absurd HA.out (by simp [offertoryref09_Sound.j0])
    | succ kj1 =>
      have H := HA.out
      clear HA
      simp only [offertoryref09_Sound.j0] at H
      by_cases c11 : x31_1 = true
      · subst c11
        have H1 : (some 4) = some r := by rw [if_pos rfl] at H; exact H
        clear H
        have H := H1
        clear H1
        obtain rfl := Option.some.inj H
        go_wp2
        repeat (go_quiet (fail); try go_wp2)
        go_ret
        exact ⟨by first | rfl | (simp [errW_none, errW_some] <;> rfl) | (simp [*, errW_none, errW_some] <;> rfl), by repeat (first | (with_reducible first | exact HB.out | apply below_alloc | apply pw_below_drewN | apply below_drew1 | refine below_set ?_ GE216.out) | exact HB.out)⟩
      · replace c11 := Bool.eq_false_iff.mpr c11
        subst c11
        have H1 : (if a0_2 < 1 then (offertoryref09_Sound.j1 kj1 true a0_0 a0_1 a0_2 l0_3) else (offertoryref09_Sound.j1 kj1 (decide (a0_2 > 65536)) a0_0 a0_1 a0_2 l0_3)) = some r := by rw [if_neg (show ¬ (false = true) by decide)] at H; exact H
        clear H
        have H := H1
        clear H1
        have HC12 := Aside0.mk H
        clear H
        go_upto_region 4 with (fail)
        repeat (go_quiet (fail); go_upto_region 4 with (fail))
        go_cut [39] (fun v39 wc => ∃ (kq : Nat) (x39_11 : Bool), v39 = .bool x39_11 ∧ Aside0 (offertoryref09_Sound.j1 kq x39_11 a0_0 a0_1 a0_2 l0_3 = some r) ∧ Aside0 (kq ≤ kj1) ∧ Aside0 (wc.heap[gb216]? = some (.cells #[.int .i64 a0_0, .int .i64 a0_1, .int .i64 a0_2, (.slice A0_3 l0_3.length c0_3)] 38 (0, 0))) ∧ Aside0 (Below w.heap.size w wc))
        case first =>
          have H := HC12.out
          clear HC12
          by_cases c13 : a0_2 < 1
          · rw [if_pos c13] at H
            have c13b0 : decide (a0_2 < 1) = true := decide_eq_true c13
            clear c13
            (first | rw [c13b0] | (simp only [i64_w, i32_w]; rw [c13b0]) | skip)
            have H' := Aside0.mk H
            clear H
            have hcz14_0 : wc.cell? ⟨gb216, 0, none⟩ = some (.int .i64 a0_0) := (blk_cell BK216.out 0).trans rfl
            have hcz14_1 : wc.cell? ⟨gb216, 1, none⟩ = some (.int .i64 a0_1) := (blk_cell BK216.out 1).trans rfl
            have hcz14_2 : wc.cell? ⟨gb216, 2, none⟩ = some (.int .i64 a0_2) := (blk_cell BK216.out 2).trans rfl
            have hcz14_3 : wc.cell? ⟨gb216, 3, none⟩ = some (.slice A0_3 l0_3.length c0_3) := (blk_cell BK216.out 3).trans rfl
            have hfz14_0 := blk_frozen BK216.out 0
            have hfz14_1 := blk_frozen BK216.out 1
            have hfz14_2 := blk_frozen BK216.out 2
            have hfz14_3 := blk_frozen BK216.out 3
            go_wp2
            repeat (go_quiet (fail); try go_wp2)
            go_meet
            case rel => exact ⟨_, (true), (by first | rfl | (simp; done) | (simp [*]; done)), H', ⟨by have := HJ1.out; first | omega | exact Nat.le_refl _⟩, ⟨by (with_reducible repeat (first | refine blk_drewN ?_ _ | refine blk_drew ?_ | refine blk_alloc ?_ _)); exact BK216.out⟩, ⟨by repeat (first | (with_reducible first | exact HB.out | apply below_alloc | apply pw_below_drewN | apply below_drew1 | refine below_set ?_ GE216.out) | exact HB.out)⟩⟩
          · rw [if_neg c13] at H
            have c13b0 : decide (a0_2 < 1) = false := decide_eq_false c13
            clear c13
            (first | rw [c13b0] | (simp only [i64_w, i32_w]; rw [c13b0]) | skip)
            have H' := Aside0.mk H
            clear H
            have hcz15_0 : wc.cell? ⟨gb216, 0, none⟩ = some (.int .i64 a0_0) := (blk_cell BK216.out 0).trans rfl
            have hcz15_1 : wc.cell? ⟨gb216, 1, none⟩ = some (.int .i64 a0_1) := (blk_cell BK216.out 1).trans rfl
            have hcz15_2 : wc.cell? ⟨gb216, 2, none⟩ = some (.int .i64 a0_2) := (blk_cell BK216.out 2).trans rfl
            have hcz15_3 : wc.cell? ⟨gb216, 3, none⟩ = some (.slice A0_3 l0_3.length c0_3) := (blk_cell BK216.out 3).trans rfl
            have hfz15_0 := blk_frozen BK216.out 0
            have hfz15_1 := blk_frozen BK216.out 1
            have hfz15_2 := blk_frozen BK216.out 2
            have hfz15_3 := blk_frozen BK216.out 3
            go_wp2
            repeat (go_quiet (fail); try go_wp2)
            go_meet
            case rel => exact ⟨_, (decide (a0_2 > 65536)), (by first | rfl | (simp; done) | (simp [*]; done)), H', ⟨by have := HJ1.out; first | omega | exact Nat.le_refl _⟩, ⟨by (with_reducible repeat (first | refine blk_drewN ?_ _ | refine blk_drew ?_ | refine blk_alloc ?_ _)); exact BK216.out⟩, ⟨by repeat (first | (with_reducible first | exact HB.out | apply below_alloc | apply pw_below_drewN | apply below_drew1 | refine below_set ?_ GE216.out) | exact HB.out)⟩⟩
        case rest =>
          clear HC12
          try clear c1
          try clear p2
          try clear c4
          try clear c4b0
          try clear c6
          try clear c6b0
          try clear p6
          try clear c8
          try clear c8b0
          try clear c11
          try clear c13
          try clear c13b0
          try clear hcz10_0
          try clear hcz10_1
          try clear hcz10_2
          try clear hcz10_3
          try clear hcz14_0
          try clear hcz14_1
          try clear hcz14_2
          try clear hcz14_3
          try clear hcz15_0
          try clear hcz15_1
          try clear hcz15_2
          try clear hcz15_3
          try clear hcz5_0
          try clear hcz5_1
          try clear hcz5_2
          try clear hcz5_3
          try clear hcz7_0
          try clear hcz7_1
          try clear hcz7_2
          try clear hcz7_3
          try clear hcz9_0
          try clear hcz9_1
          try clear hcz9_2
          try clear hcz9_3
          try clear hfz10_0
          try clear hfz10_1
          try clear hfz10_2
          try clear hfz10_3
          try clear hfz14_0
          try clear hfz14_1
          try clear hfz14_2
          try clear hfz14_3
          try clear hfz15_0
          try clear hfz15_1
          try clear hfz15_2
          try clear hfz15_3
          try clear hfz5_0
          try clear hfz5_1
          try clear hfz5_2
          try clear hfz5_3
          try clear hfz7_0
          try clear hfz7_1
          try clear hfz7_2
          try clear hfz7_3
          try clear hfz9_0
          try clear hfz9_1
          try clear hfz9_2
          try clear hfz9_3
          try clear p2
          try clear p6
          obtain ⟨kq, x39_11, rfl, HA, HJ11, BK216, HB⟩ := hcut
          cases kq with
          | zero => exact absurd HA.out (by simp [offertoryref09_Sound.j1])
          | succ kj11 =>
            have H := HA.out
            clear HA
            simp only [offertoryref09_Sound.j1] at H
            by_cases c16 : x39_11 = true
            · subst c16
              have H1 : (some 9) = some r := by rw [if_pos rfl] at H; exact H
              clear H
              have H := H1
              clear H1
              obtain rfl := Option.some.inj H
              go_wp2
              repeat (go_quiet (fail); try go_wp2)
              go_ret
              exact ⟨by first | rfl | (simp [errW_none, errW_some] <;> rfl) | (simp [*, errW_none, errW_some] <;> rfl), by repeat (first | (with_reducible first | exact HB.out | apply below_alloc | apply pw_below_drewN | apply below_drew1 | refine below_set ?_ GE216.out) | exact HB.out)⟩
            · replace c16 := Bool.eq_false_iff.mpr c16
              subst c16
              have H1 : (if (l0_3.length : Int) > 64 then (some 10) else (offertoryref09_Sound.l0 kj11 1 a0_0 a0_1 a0_2 l0_3)) = some r := by rw [if_neg (show ¬ (false = true) by decide)] at H; exact H
              clear H
              have H := H1
              clear H1
              by_cases c17 : (l0_3.length : Int) > 64
              · rw [if_pos c17] at H
                have c17b0 : decide (64 < (l0_3.length : Int)) = true := decide_eq_true c17
                have c17b1 : decide (64 < l0_3.length) = true := decide_eq_true (by omega)
                clear c17
                obtain rfl := Option.some.inj H
                have hcz18_0 : wc.cell? ⟨gb216, 0, none⟩ = some (.int .i64 a0_0) := (blk_cell BK216.out 0).trans rfl
                have hcz18_1 : wc.cell? ⟨gb216, 1, none⟩ = some (.int .i64 a0_1) := (blk_cell BK216.out 1).trans rfl
                have hcz18_2 : wc.cell? ⟨gb216, 2, none⟩ = some (.int .i64 a0_2) := (blk_cell BK216.out 2).trans rfl
                have hcz18_3 : wc.cell? ⟨gb216, 3, none⟩ = some (.slice A0_3 l0_3.length c0_3) := (blk_cell BK216.out 3).trans rfl
                have hfz18_0 := blk_frozen BK216.out 0
                have hfz18_1 := blk_frozen BK216.out 1
                have hfz18_2 := blk_frozen BK216.out 2
                have hfz18_3 := blk_frozen BK216.out 3
                go_wp2
                repeat (go_quiet (fail); try go_wp2)
                go_ret
                exact ⟨by first | rfl | (simp [errW_none, errW_some] <;> rfl) | (simp [*, errW_none, errW_some] <;> rfl), by repeat (first | (with_reducible first | exact HB.out | apply below_alloc | apply pw_below_drewN | apply below_drew1 | refine below_set ?_ GE216.out) | exact HB.out)⟩
              · rw [if_neg c17] at H
                have c17b0 : decide (64 < (l0_3.length : Int)) = false := decide_eq_false c17
                have c17b1 : decide (64 < l0_3.length) = false := decide_eq_false (by omega)
                clear c17
                have H' := Aside0.mk H
                clear H
                have hcz19_0 : wc.cell? ⟨gb216, 0, none⟩ = some (.int .i64 a0_0) := (blk_cell BK216.out 0).trans rfl
                have hcz19_1 : wc.cell? ⟨gb216, 1, none⟩ = some (.int .i64 a0_1) := (blk_cell BK216.out 1).trans rfl
                have hcz19_2 : wc.cell? ⟨gb216, 2, none⟩ = some (.int .i64 a0_2) := (blk_cell BK216.out 2).trans rfl
                have hcz19_3 : wc.cell? ⟨gb216, 3, none⟩ = some (.slice A0_3 l0_3.length c0_3) := (blk_cell BK216.out 3).trans rfl
                have hfz19_0 := blk_frozen BK216.out 0
                have hfz19_1 := blk_frozen BK216.out 1
                have hfz19_2 := blk_frozen BK216.out 2
                have hfz19_3 := blk_frozen BK216.out 3
                go_wp2
                repeat (go_quiet (fail); try go_wp2)
                go_loopg [4] kj11 (fun kq v4 w' => ∃ (x4_3 : Int), v4 = .int .i64 x4_3 ∧ Aside0 (offertoryref09_Sound.l0 kq x4_3 a0_0 a0_1 a0_2 l0_3 = some r) ∧ Aside0 (kq ≤ kj11) ∧ Aside0 (w'.heap[gb216]? = some (.cells #[.int .i64 a0_0, .int .i64 a0_1, .int .i64 a0_2, (.slice A0_3 l0_3.length c0_3)] 38 (0, 0))) ∧ Aside0 (Below w.heap.size w w'))
                case atStart => exact ⟨(1), (by first | rfl | (simp; done) | (simp [*]; done)), H', ⟨Nat.le_refl _⟩, ⟨by (with_reducible repeat (first | refine blk_drewN ?_ _ | refine blk_drew ?_ | refine blk_alloc ?_ _)); exact BK216.out⟩, ⟨by repeat (first | (with_reducible first | exact HB.out | apply below_alloc | apply pw_below_drewN | apply below_drew1 | refine below_set ?_ GE216.out) | exact HB.out)⟩⟩
                case round =>
                  clear H'
                  try clear c1
                  try clear p2
                  try clear c4
                  try clear c4b0
                  try clear c6
                  try clear c6b0
                  try clear p6
                  try clear c8
                  try clear c8b0
                  try clear c11
                  try clear c13
                  try clear c13b0
                  try clear c16
                  try clear c17
                  try clear c17b0
                  try clear c17b1
                  try clear hcz10_0
                  try clear hcz10_1
                  try clear hcz10_2
                  try clear hcz10_3
                  try clear hcz14_0
                  try clear hcz14_1
                  try clear hcz14_2
                  try clear hcz14_3
                  try clear hcz15_0
                  try clear hcz15_1
                  try clear hcz15_2
                  try clear hcz15_3
                  try clear hcz18_0
                  try clear hcz18_1
                  try clear hcz18_2
                  try clear hcz18_3
                  try clear hcz19_0
                  try clear hcz19_1
                  try clear hcz19_2
                  try clear hcz19_3
                  try clear hcz5_0
                  try clear hcz5_1
                  try clear hcz5_2
                  try clear hcz5_3
                  try clear hcz7_0
                  try clear hcz7_1
                  try clear hcz7_2
                  try clear hcz7_3
                  try clear hcz9_0
                  try clear hcz9_1
                  try clear hcz9_2
                  try clear hcz9_3
                  try clear hfz10_0
                  try clear hfz10_1
                  try clear hfz10_2
                  try clear hfz10_3
                  try clear hfz14_0
                  try clear hfz14_1
                  try clear hfz14_2
                  try clear hfz14_3
                  try clear hfz15_0
                  try clear hfz15_1
                  try clear hfz15_2
                  try clear hfz15_3
                  try clear hfz18_0
                  try clear hfz18_1
                  try clear hfz18_2
                  try clear hfz18_3
                  try clear hfz19_0
                  try clear hfz19_1
                  try clear hfz19_2
                  try clear hfz19_3
                  try clear hfz5_0
                  try clear hfz5_1
                  try clear hfz5_2
                  try clear hfz5_3
                  try clear hfz7_0
                  try clear hfz7_1
                  try clear hfz7_2
                  try clear hfz7_3
                  try clear hfz9_0
                  try clear hfz9_1
                  try clear hfz9_2
                  try clear hfz9_3
                  try clear p2
                  try clear p6
                  obtain ⟨x4_3, rfl, HA, HK3, BK216, HB⟩ := hrel
                  cases gk with
                  | zero => exact absurd HA.out (by simp [offertoryref09_Sound.l0])
                  | succ k3 =>
                    have H := HA.out
                    clear HA
                    simp only [offertoryref09_Sound.l0] at H
                    by_cases c20 : x4_3 < (l0_3.length : Int)
                    · rw [if_pos c20] at H
                      have c20b0 : decide (x4_3 < (l0_3.length : Int)) = true := decide_eq_true c20
                      clear c20
                      obtain ⟨ji21, hji21⟩ : ∃ j_ : Int, (wrap64 (x4_3 - 1)) = j_ := ⟨_, rfl⟩
                      replace H : (if 0 ≤ (ji21) then (if (ji21) < (l0_3.length : Int) then (if 0 ≤ x4_3 then (if (rd l0_3 (ji21)) ≥ (rd l0_3 x4_3) then (some 10) else (offertoryref09_Sound.l0 k3 (wrap64 (x4_3 + 1)) a0_0 a0_1 a0_2 l0_3)) else (none)) else (none)) else (none)) = some r := by first | (rw [hji21] at H; exact H) | (simp only [hji21] at H ⊢; exact H)
                      have hji21w : (IntKind.i64.wrap (x4_3 - 1)) = ji21 := (i64_w _).trans hji21
                      by_cases c22 : 0 ≤ (ji21)
                      · rw [if_pos c22] at H
                        have c22b0 : decide (0 ≤ (ji21)) = true := decide_eq_true c22
                        clear c22
                        by_cases c23 : (ji21) < (l0_3.length : Int)
                        · rw [if_pos c23] at H
                          have c23b0 : decide ((ji21) < (l0_3.length : Int)) = true := decide_eq_true c23
                          clear c23
                          by_cases c24 : 0 ≤ x4_3
                          · rw [if_pos c24] at H
                            have c24b0 : decide (0 ≤ x4_3) = true := decide_eq_true c24
                            clear c24
                            by_cases c25 : (rd l0_3 (ji21)) ≥ (rd l0_3 x4_3)
                            · rw [if_pos c25] at H
                              have c25b0 : decide ((rd l0_3 x4_3) ≤ (rd l0_3 (ji21))) = true := decide_eq_true c25
                              clear c25
                              obtain rfl := Option.some.inj H
                              have hcz26_0 : wr.cell? ⟨gb216, 0, none⟩ = some (.int .i64 a0_0) := (blk_cell BK216.out 0).trans rfl
                              have hcz26_1 : wr.cell? ⟨gb216, 1, none⟩ = some (.int .i64 a0_1) := (blk_cell BK216.out 1).trans rfl
                              have hcz26_2 : wr.cell? ⟨gb216, 2, none⟩ = some (.int .i64 a0_2) := (blk_cell BK216.out 2).trans rfl
                              have hcz26_3 : wr.cell? ⟨gb216, 3, none⟩ = some (.slice A0_3 l0_3.length c0_3) := (blk_cell BK216.out 3).trans rfl
                              have hfz26_0 := blk_frozen BK216.out 0
                              have hfz26_1 := blk_frozen BK216.out 1
                              have hfz26_2 := blk_frozen BK216.out 2
                              have hfz26_3 := blk_frozen BK216.out 3
                              have p217 : 0 ≤ ((ji21) : Int) := of_decide_eq_true (by first | (with_reducible assumption) | assumption)
                              have q217 : (ji21) < (l0_3.length : Int) := of_decide_eq_true (by first | (with_reducible assumption) | assumption)
                              obtain ⟨ad217, e217, hx217_0⟩ := Kd.at_int HR0_3.out (ji21) p217 q217
                              cases e217
                              replace hx217_0 := (HB.out.cell (World.block_lt_of_cell? w _ hx217_0)).trans hx217_0
                              replace p217 := eq_true p217
                              replace q217 := eq_true q217
                              have p218 : 0 ≤ (x4_3 : Int) := of_decide_eq_true (by first | (with_reducible assumption) | assumption)
                              have q218 : x4_3 < (l0_3.length : Int) := of_decide_eq_true (by first | (with_reducible assumption) | assumption)
                              obtain ⟨ad218, e218, hx218_0⟩ := Kd.at_int HR0_3.out x4_3 p218 q218
                              obtain rfl : ad217 = ad218 := (by injection e218)
                              replace hx218_0 := (HB.out.cell (World.block_lt_of_cell? w _ hx218_0)).trans hx218_0
                              replace p218 := eq_true p218
                              replace q218 := eq_true q218
                              go_wp2
                              repeat (go_quiet (fail); try go_wp2)
                              go_ret
                              exact ⟨by first | rfl | (simp [errW_none, errW_some] <;> rfl) | (simp only [← hji21]; first | rfl | (simp [errW_none, errW_some] <;> rfl)) | (simp [*, errW_none, errW_some] <;> rfl), by repeat (first | (with_reducible first | exact HB.out | apply below_alloc | apply pw_below_drewN | apply below_drew1 | refine below_set ?_ GE216.out) | exact HB.out)⟩
                            · rw [if_neg c25] at H
                              have c25b0 : decide ((rd l0_3 x4_3) ≤ (rd l0_3 (ji21))) = false := decide_eq_false c25
                              clear c25
                              have H' := Aside0.mk H
                              clear H
                              have hcz27_0 : wr.cell? ⟨gb216, 0, none⟩ = some (.int .i64 a0_0) := (blk_cell BK216.out 0).trans rfl
                              have hcz27_1 : wr.cell? ⟨gb216, 1, none⟩ = some (.int .i64 a0_1) := (blk_cell BK216.out 1).trans rfl
                              have hcz27_2 : wr.cell? ⟨gb216, 2, none⟩ = some (.int .i64 a0_2) := (blk_cell BK216.out 2).trans rfl
                              have hcz27_3 : wr.cell? ⟨gb216, 3, none⟩ = some (.slice A0_3 l0_3.length c0_3) := (blk_cell BK216.out 3).trans rfl
                              have hfz27_0 := blk_frozen BK216.out 0
                              have hfz27_1 := blk_frozen BK216.out 1
                              have hfz27_2 := blk_frozen BK216.out 2
                              have hfz27_3 := blk_frozen BK216.out 3
                              have p217 : 0 ≤ ((ji21) : Int) := of_decide_eq_true (by first | (with_reducible assumption) | assumption)
                              have q217 : (ji21) < (l0_3.length : Int) := of_decide_eq_true (by first | (with_reducible assumption) | assumption)
                              obtain ⟨ad217, e217, hx217_0⟩ := Kd.at_int HR0_3.out (ji21) p217 q217
                              cases e217
                              replace hx217_0 := (HB.out.cell (World.block_lt_of_cell? w _ hx217_0)).trans hx217_0
                              replace p217 := eq_true p217
                              replace q217 := eq_true q217
                              have p218 : 0 ≤ (x4_3 : Int) := of_decide_eq_true (by first | (with_reducible assumption) | assumption)
                              have q218 : x4_3 < (l0_3.length : Int) := of_decide_eq_true (by first | (with_reducible assumption) | assumption)
                              obtain ⟨ad218, e218, hx218_0⟩ := Kd.at_int HR0_3.out x4_3 p218 q218
                              obtain rfl : ad217 = ad218 := (by injection e218)
                              replace hx218_0 := (HB.out.cell (World.block_lt_of_cell? w _ hx218_0)).trans hx218_0
                              replace p218 := eq_true p218
                              replace q218 := eq_true q218
                              go_wp2
                              repeat (go_quiet (fail); try go_wp2)
                              go_roundg k3
                              case measure => have := HJ1.out; have := HJ11.out; have := HK3.out; omega
                              case rel => exact ⟨(wrap64 (x4_3 + 1)), (by first | rfl | (simp; done) | (simp [*]; done)), H', ⟨by have := HJ1.out; have := HJ11.out; have := HK3.out; omega⟩, ⟨by (with_reducible repeat (first | refine blk_drewN ?_ _ | refine blk_drew ?_ | refine blk_alloc ?_ _)); exact BK216.out⟩, ⟨by repeat (first | (with_reducible first | exact HB.out | apply below_alloc | apply pw_below_drewN | apply below_drew1 | refine below_set ?_ GE216.out) | exact HB.out)⟩⟩
                          · rw [if_neg c24] at H
                            exact absurd H (by simp)
                        · rw [if_neg c23] at H
                          exact absurd H (by simp)
                      · rw [if_neg c22] at H
                        exact absurd H (by simp)
                    · rw [if_neg c20] at H
                      have c20b0 : decide (x4_3 < (l0_3.length : Int)) = false := decide_eq_false c20
                      clear c20
                      obtain rfl := Option.some.inj H
                      have hcz28_0 : wr.cell? ⟨gb216, 0, none⟩ = some (.int .i64 a0_0) := (blk_cell BK216.out 0).trans rfl
                      have hcz28_1 : wr.cell? ⟨gb216, 1, none⟩ = some (.int .i64 a0_1) := (blk_cell BK216.out 1).trans rfl
                      have hcz28_2 : wr.cell? ⟨gb216, 2, none⟩ = some (.int .i64 a0_2) := (blk_cell BK216.out 2).trans rfl
                      have hcz28_3 : wr.cell? ⟨gb216, 3, none⟩ = some (.slice A0_3 l0_3.length c0_3) := (blk_cell BK216.out 3).trans rfl
                      have hfz28_0 := blk_frozen BK216.out 0
                      have hfz28_1 := blk_frozen BK216.out 1
                      have hfz28_2 := blk_frozen BK216.out 2
                      have hfz28_3 := blk_frozen BK216.out 3
                      go_wp2
                      repeat (go_quiet (fail); try go_wp2)
                      go_ret
                      exact ⟨by first | rfl | (simp [errW_none, errW_some] <;> rfl) | (simp [*, errW_none, errW_some] <;> rfl), by repeat (first | (with_reducible first | exact HB.out | apply below_alloc | apply pw_below_drewN | apply below_drew1 | refine below_set ?_ GE216.out) | exact HB.out)⟩

/-! ### offertoryref09_Add: function 22 -/
/-- Digits of a sum, and what is carried. -/
def carryAt (A B : List Int) : Nat → Int
  | 0 => 0
  | k + 1 => (rd A k + rd B k + carryAt A B k) / 65536
def digAt (A B : List Int) (k : Nat) : Int := (rd A k + rd B k + carryAt A B k) % 65536
theorem carry_in {A B : List Int} (hA : Small A) (hB : Small B) : ∀ k, 0 ≤ carryAt A B k ∧ carryAt A B k ≤ 1
  | 0 => by simp [carryAt]
  | k + 1 => by
    have := hA.2 k; have := hB.2 k; have := carry_in hA hB k
    simp only [carryAt]; omega
/-- The array behind k rounds. -/
def sumS (A B : List Int) (k : Nat) : List Int := (List.range 8).map (fun j => if j < k then digAt A B j else rd A j)
theorem sumS_length (A B : List Int) (k : Nat) : (sumS A B k).length = 8 := by simp [sumS]
theorem sumS_get (A B : List Int) (k : Nat) (h : k < 8) : rd (sumS A B k) (k : Int) = rd A k := by
  simp [sumS, rd, List.getD, h]
theorem sumS_zero {A : List Int} (hA : A.length = 8) (B : List Int) : sumS A B 0 = A := by
  refine List.ext_getElem (by simp [sumS, hA]) (fun i h1 h2 => ?_)
  simp [sumS, rd, List.getD, List.getElem?_eq_getElem h2]
theorem sumS_set (A B : List Int) (k : Nat) (h : k < 8) : (sumS A B k).set k (digAt A B k) = sumS A B (k + 1) := by
  refine List.ext_getElem (by simp [sumS]) (fun i h1 h2 => ?_)
  simp only [List.getElem_set, sumS, List.getElem_map, List.getElem_range]
  by_cases e : k = i
  · subst e; simp
  · rw [if_neg e]
    by_cases h3 : i < k
    · rw [if_pos h3, if_pos (by omega)]
    · rw [if_neg h3, if_neg (by omega)]
def AddI (w : World) (ga gb gr : Nat) (A B : List Int) (k : Nat) (w' : World) : Prop :=
  Below w.heap.size w w' ∧ ArrAt w' ga 52 .u32 (sumS A B k) ∧ ArrAt w' gb 52 .u32 B ∧ ArrAt w' gr 52 .u32 [0, 0, 0, 0, 0, 0, 0, 0]
set_option maxHeartbeats 800000 in
set_option maxRecDepth 100000 in
theorem offertoryref09_Add.calls0 (A B : List Int) (hA : Small A) (hB : Small B) (w : World) :
    Calls Try.prog 22 #[.agg (nums .u32 A).toArray, .agg (nums .u32 B).toArray] w fun e w' => e = .returned (.agg (nums .u32 (sumS A B 8)).toArray) ∧ Below w.heap.size w w' := by
  have hu29 := Try.underlying52
  go_enter Try.func22, Try.ntmps22
  go_wp2
  go_loopw [5, 6] (fun c i w' => ∃ k : Nat, k ≤ 8 ∧ c = .int .u32 (carryAt A B k) ∧ i = .int .i64 k ∧ AddI w w.heap.size (w.heap.size + 1) (w.heap.size + 1 + 1) A B k w') (fun _ i _ => 8 - (intOf i).toNat)
  case atStart =>
    refine ⟨0, by omega, rfl, rfl, ?_, ?_, ?_, ?_⟩
    · repeat (first | (with_reducible exact Below.refl _ _) | apply below_alloc)
    · rw [sumS_zero hA.1]
      exact blk_alloc (blk_alloc (blk_new _ _) _) _
    · have h := blk_alloc (blk_new (w.alloc (.cells (nums .u32 A).toArray 52)) (.cells (nums .u32 B).toArray 52)) (.cells (nums .u32 [0, 0, 0, 0, 0, 0, 0, 0]).toArray 52)
      rw [alloc_size] at h
      exact h
    · have h := blk_new ((w.alloc (.cells (nums .u32 A).toArray 52)).alloc (.cells (nums .u32 B).toArray 52)) (.cells (nums .u32 [0, 0, 0, 0, 0, 0, 0, 0]).toArray 52)
      rw [alloc_size, alloc_size] at h
      exact h
  case round =>
    obtain ⟨k, hk, rfl, rfl, hb, ha1, ha2, ha3⟩ := hrel
    by_cases hlt : k < 8
    · have g1 := ha1.get k (by rw [sumS_length]; exact hlt)
      rw [sumS_get A B k hlt] at g1
      have g2 := ha2.get k (by rw [hB.1]; exact hlt)
      have f1 := ha1.frz k
      have bA := hA.2 k
      have bB := hB.2 k
      have bc := carry_in hA hB k
      have HB := Aside0.mk hb
      have H1 := Aside0.mk ha1
      have H2 := Aside0.mk ha2
      have H3 := Aside0.mk ha3
      clear hb ha1 ha2 ha3
      go_wp2
      go_quiet (fail)
      go_wp2
      go_roundw
      case rel =>
        refine ⟨k + 1, by omega, rfl, by go_num, ?_, ?_, ?_, ?_⟩
        · exact below_set (pw_below_drewN HB.out nq) (Nat.le_refl _)
        · have h := (H1.out.drew nq).put k (digAt A B k)
          rw [sumS_set A B k hlt] at h
          exact h
        · exact (H2.out.drew nq).far (by omega)
        · exact (H3.out.drew nq).far (by omega)
      case measure => simp [intOf]; omega
    · have e8 : k = 8 := by omega
      subst e8
      have HB := Aside0.mk hb
      have H3 := Aside0.mk ha3
      have c0 := ha1.get 0 (by rw [sumS_length]; decide)
      have d0 := ha3.get 0 (by decide)
      have f0 := ha3.frz 0
      have c1 := ha1.get 1 (by rw [sumS_length]; decide)
      have d1 := ha3.get 1 (by decide)
      have f1 := ha3.frz 1
      have c2 := ha1.get 2 (by rw [sumS_length]; decide)
      have d2 := ha3.get 2 (by decide)
      have f2 := ha3.frz 2
      have c3 := ha1.get 3 (by rw [sumS_length]; decide)
      have d3 := ha3.get 3 (by decide)
      have f3 := ha3.frz 3
      have c4 := ha1.get 4 (by rw [sumS_length]; decide)
      have d4 := ha3.get 4 (by decide)
      have f4 := ha3.frz 4
      have c5 := ha1.get 5 (by rw [sumS_length]; decide)
      have d5 := ha3.get 5 (by decide)
      have f5 := ha3.frz 5
      have c6 := ha1.get 6 (by rw [sumS_length]; decide)
      have d6 := ha3.get 6 (by decide)
      have f6 := ha3.frz 6
      have c7 := ha1.get 7 (by rw [sumS_length]; decide)
      have d7 := ha3.get 7 (by decide)
      have f7 := ha3.frz 7
      clear hb ha1 ha2 ha3
      go_wp2
      have hp := H3.out.put8 (sumS A B 8) (sumS_length A B 8) (by decide)
      refine bodyPost_ret (results_cell_row rfl _ _ (w.heap.size + 1 + 1) 52 (nums .u32 (sumS A B 8)).toArray (0, 0) _ rfl hp Try.underlying52 rfl (by rw [nums_size, sumS_length]; kernel_rfl)) rfl ⟨rfl, ?_⟩
      repeat (first | (with_reducible exact HB.out) | (refine below_set ?_ (by omega)))
def offertoryref09_Add.f (a0 a1 a2 a3 a4 a5 a6 a7 b0 b1 b2 b3 b4 b5 b6 b7 : Int) : Option (Int × Int × Int × Int × Int × Int × Int × Int) :=
  if Dig a0 a1 a2 a3 a4 a5 a6 a7 ∧ Dig b0 b1 b2 b3 b4 b5 b6 b7 then some (digs (bigV a0 a1 a2 a3 a4 a5 a6 a7 + bigV b0 b1 b2 b3 b4 b5 b6 b7)) else none
set_option maxRecDepth 100000 in
theorem offertoryref09_Add.calls (a0 a1 a2 a3 a4 a5 a6 a7 b0 b1 b2 b3 b4 b5 b6 b7 r1 r2 r3 r4 r5 r6 r7 r8 : Int) (w : World) (h : offertoryref09_Add.f a0 a1 a2 a3 a4 a5 a6 a7 b0 b1 b2 b3 b4 b5 b6 b7 = some (r1, r2, r3, r4, r5, r6, r7, r8)) :
    Calls Try.prog 22 #[.agg #[.int .u32 a0, .int .u32 a1, .int .u32 a2, .int .u32 a3, .int .u32 a4, .int .u32 a5, .int .u32 a6, .int .u32 a7], .agg #[.int .u32 b0, .int .u32 b1, .int .u32 b2, .int .u32 b3, .int .u32 b4, .int .u32 b5, .int .u32 b6, .int .u32 b7]] w fun e w' => e = .returned (.agg #[.int .u32 r1, .int .u32 r2, .int .u32 r3, .int .u32 r4, .int .u32 r5, .int .u32 r6, .int .u32 r7, .int .u32 r8]) ∧ Below w.heap.size w w' := by
  unfold offertoryref09_Add.f at h
  split at h
  case isFalse => cases h
  rename_i hr
  have hA : Small [a0, a1, a2, a3, a4, a5, a6, a7] := hr.1.small
  have hB : Small [b0, b1, b2, b3, b4, b5, b6, b7] := hr.2.small
  refine (offertoryref09_Add.calls0 [a0, a1, a2, a3, a4, a5, a6, a7] [b0, b1, b2, b3, b4, b5, b6, b7] hA hB w).mono ?_
  rintro e w' ⟨rfl, hb⟩
  refine ⟨?_, hb⟩
  simp only [Option.some.injEq, digs, Prod.mk.injEq] at h
  obtain ⟨rfl, rfl, rfl, rfl, rfl, rfl, rfl, rfl⟩ := h
  obtain ⟨hr1, hr2⟩ := hr
  unfold Dig at hr1 hr2
  have hc1 : carryAt [a0, a1, a2, a3, a4, a5, a6, a7] [b0, b1, b2, b3, b4, b5, b6, b7] 1 = (a0 + b0 + carryAt [a0, a1, a2, a3, a4, a5, a6, a7] [b0, b1, b2, b3, b4, b5, b6, b7] 0) / 65536 := rfl
  have hc2 : carryAt [a0, a1, a2, a3, a4, a5, a6, a7] [b0, b1, b2, b3, b4, b5, b6, b7] 2 = (a1 + b1 + carryAt [a0, a1, a2, a3, a4, a5, a6, a7] [b0, b1, b2, b3, b4, b5, b6, b7] 1) / 65536 := rfl
  have hc3 : carryAt [a0, a1, a2, a3, a4, a5, a6, a7] [b0, b1, b2, b3, b4, b5, b6, b7] 3 = (a2 + b2 + carryAt [a0, a1, a2, a3, a4, a5, a6, a7] [b0, b1, b2, b3, b4, b5, b6, b7] 2) / 65536 := rfl
  have hc4 : carryAt [a0, a1, a2, a3, a4, a5, a6, a7] [b0, b1, b2, b3, b4, b5, b6, b7] 4 = (a3 + b3 + carryAt [a0, a1, a2, a3, a4, a5, a6, a7] [b0, b1, b2, b3, b4, b5, b6, b7] 3) / 65536 := rfl
  have hc5 : carryAt [a0, a1, a2, a3, a4, a5, a6, a7] [b0, b1, b2, b3, b4, b5, b6, b7] 5 = (a4 + b4 + carryAt [a0, a1, a2, a3, a4, a5, a6, a7] [b0, b1, b2, b3, b4, b5, b6, b7] 4) / 65536 := rfl
  have hc6 : carryAt [a0, a1, a2, a3, a4, a5, a6, a7] [b0, b1, b2, b3, b4, b5, b6, b7] 6 = (a5 + b5 + carryAt [a0, a1, a2, a3, a4, a5, a6, a7] [b0, b1, b2, b3, b4, b5, b6, b7] 5) / 65536 := rfl
  have hc7 : carryAt [a0, a1, a2, a3, a4, a5, a6, a7] [b0, b1, b2, b3, b4, b5, b6, b7] 7 = (a6 + b6 + carryAt [a0, a1, a2, a3, a4, a5, a6, a7] [b0, b1, b2, b3, b4, b5, b6, b7] 6) / 65536 := rfl
  have hc8 : carryAt [a0, a1, a2, a3, a4, a5, a6, a7] [b0, b1, b2, b3, b4, b5, b6, b7] 8 = (a7 + b7 + carryAt [a0, a1, a2, a3, a4, a5, a6, a7] [b0, b1, b2, b3, b4, b5, b6, b7] 7) / 65536 := rfl
  have hd0 : digAt [a0, a1, a2, a3, a4, a5, a6, a7] [b0, b1, b2, b3, b4, b5, b6, b7] 0 = (a0 + b0 + carryAt [a0, a1, a2, a3, a4, a5, a6, a7] [b0, b1, b2, b3, b4, b5, b6, b7] 0) % 65536 := rfl
  have hd1 : digAt [a0, a1, a2, a3, a4, a5, a6, a7] [b0, b1, b2, b3, b4, b5, b6, b7] 1 = (a1 + b1 + carryAt [a0, a1, a2, a3, a4, a5, a6, a7] [b0, b1, b2, b3, b4, b5, b6, b7] 1) % 65536 := rfl
  have hd2 : digAt [a0, a1, a2, a3, a4, a5, a6, a7] [b0, b1, b2, b3, b4, b5, b6, b7] 2 = (a2 + b2 + carryAt [a0, a1, a2, a3, a4, a5, a6, a7] [b0, b1, b2, b3, b4, b5, b6, b7] 2) % 65536 := rfl
  have hd3 : digAt [a0, a1, a2, a3, a4, a5, a6, a7] [b0, b1, b2, b3, b4, b5, b6, b7] 3 = (a3 + b3 + carryAt [a0, a1, a2, a3, a4, a5, a6, a7] [b0, b1, b2, b3, b4, b5, b6, b7] 3) % 65536 := rfl
  have hd4 : digAt [a0, a1, a2, a3, a4, a5, a6, a7] [b0, b1, b2, b3, b4, b5, b6, b7] 4 = (a4 + b4 + carryAt [a0, a1, a2, a3, a4, a5, a6, a7] [b0, b1, b2, b3, b4, b5, b6, b7] 4) % 65536 := rfl
  have hd5 : digAt [a0, a1, a2, a3, a4, a5, a6, a7] [b0, b1, b2, b3, b4, b5, b6, b7] 5 = (a5 + b5 + carryAt [a0, a1, a2, a3, a4, a5, a6, a7] [b0, b1, b2, b3, b4, b5, b6, b7] 5) % 65536 := rfl
  have hd6 : digAt [a0, a1, a2, a3, a4, a5, a6, a7] [b0, b1, b2, b3, b4, b5, b6, b7] 6 = (a6 + b6 + carryAt [a0, a1, a2, a3, a4, a5, a6, a7] [b0, b1, b2, b3, b4, b5, b6, b7] 6) % 65536 := rfl
  have hd7 : digAt [a0, a1, a2, a3, a4, a5, a6, a7] [b0, b1, b2, b3, b4, b5, b6, b7] 7 = (a7 + b7 + carryAt [a0, a1, a2, a3, a4, a5, a6, a7] [b0, b1, b2, b3, b4, b5, b6, b7] 7) % 65536 := rfl
  have hc0 : carryAt [a0, a1, a2, a3, a4, a5, a6, a7] [b0, b1, b2, b3, b4, b5, b6, b7] 0 = 0 := rfl
  have he : sumS [a0, a1, a2, a3, a4, a5, a6, a7] [b0, b1, b2, b3, b4, b5, b6, b7] 8 = [digAt [a0, a1, a2, a3, a4, a5, a6, a7] [b0, b1, b2, b3, b4, b5, b6, b7] 0, digAt [a0, a1, a2, a3, a4, a5, a6, a7] [b0, b1, b2, b3, b4, b5, b6, b7] 1, digAt [a0, a1, a2, a3, a4, a5, a6, a7] [b0, b1, b2, b3, b4, b5, b6, b7] 2, digAt [a0, a1, a2, a3, a4, a5, a6, a7] [b0, b1, b2, b3, b4, b5, b6, b7] 3, digAt [a0, a1, a2, a3, a4, a5, a6, a7] [b0, b1, b2, b3, b4, b5, b6, b7] 4, digAt [a0, a1, a2, a3, a4, a5, a6, a7] [b0, b1, b2, b3, b4, b5, b6, b7] 5, digAt [a0, a1, a2, a3, a4, a5, a6, a7] [b0, b1, b2, b3, b4, b5, b6, b7] 6, digAt [a0, a1, a2, a3, a4, a5, a6, a7] [b0, b1, b2, b3, b4, b5, b6, b7] 7] := rfl
  rw [he]
  generalize carryAt [a0, a1, a2, a3, a4, a5, a6, a7] [b0, b1, b2, b3, b4, b5, b6, b7] 0 = c0 at *
  generalize carryAt [a0, a1, a2, a3, a4, a5, a6, a7] [b0, b1, b2, b3, b4, b5, b6, b7] 1 = c1 at *
  generalize carryAt [a0, a1, a2, a3, a4, a5, a6, a7] [b0, b1, b2, b3, b4, b5, b6, b7] 2 = c2 at *
  generalize carryAt [a0, a1, a2, a3, a4, a5, a6, a7] [b0, b1, b2, b3, b4, b5, b6, b7] 3 = c3 at *
  generalize carryAt [a0, a1, a2, a3, a4, a5, a6, a7] [b0, b1, b2, b3, b4, b5, b6, b7] 4 = c4 at *
  generalize carryAt [a0, a1, a2, a3, a4, a5, a6, a7] [b0, b1, b2, b3, b4, b5, b6, b7] 5 = c5 at *
  generalize carryAt [a0, a1, a2, a3, a4, a5, a6, a7] [b0, b1, b2, b3, b4, b5, b6, b7] 6 = c6 at *
  generalize carryAt [a0, a1, a2, a3, a4, a5, a6, a7] [b0, b1, b2, b3, b4, b5, b6, b7] 7 = c7 at *
  generalize carryAt [a0, a1, a2, a3, a4, a5, a6, a7] [b0, b1, b2, b3, b4, b5, b6, b7] 8 = c8 at *
  generalize digAt [a0, a1, a2, a3, a4, a5, a6, a7] [b0, b1, b2, b3, b4, b5, b6, b7] 0 = d0 at *
  generalize digAt [a0, a1, a2, a3, a4, a5, a6, a7] [b0, b1, b2, b3, b4, b5, b6, b7] 1 = d1 at *
  generalize digAt [a0, a1, a2, a3, a4, a5, a6, a7] [b0, b1, b2, b3, b4, b5, b6, b7] 2 = d2 at *
  generalize digAt [a0, a1, a2, a3, a4, a5, a6, a7] [b0, b1, b2, b3, b4, b5, b6, b7] 3 = d3 at *
  generalize digAt [a0, a1, a2, a3, a4, a5, a6, a7] [b0, b1, b2, b3, b4, b5, b6, b7] 4 = d4 at *
  generalize digAt [a0, a1, a2, a3, a4, a5, a6, a7] [b0, b1, b2, b3, b4, b5, b6, b7] 5 = d5 at *
  generalize digAt [a0, a1, a2, a3, a4, a5, a6, a7] [b0, b1, b2, b3, b4, b5, b6, b7] 6 = d6 at *
  generalize digAt [a0, a1, a2, a3, a4, a5, a6, a7] [b0, b1, b2, b3, b4, b5, b6, b7] 7 = d7 at *
  unfold bigV at *
  have e0 : d0 = bigD (bigV a0 a1 a2 a3 a4 a5 a6 a7 + bigV b0 b1 b2 b3 b4 b5 b6 b7) 0 := by simp only [bigD, bigV]; omega
  have e1 : d1 = bigD (bigV a0 a1 a2 a3 a4 a5 a6 a7 + bigV b0 b1 b2 b3 b4 b5 b6 b7) 1 := by simp only [bigD, bigV]; omega
  have e2 : d2 = bigD (bigV a0 a1 a2 a3 a4 a5 a6 a7 + bigV b0 b1 b2 b3 b4 b5 b6 b7) 2 := by simp only [bigD, bigV]; omega
  have e3 : d3 = bigD (bigV a0 a1 a2 a3 a4 a5 a6 a7 + bigV b0 b1 b2 b3 b4 b5 b6 b7) 3 := by simp only [bigD, bigV]; omega
  have e4 : d4 = bigD (bigV a0 a1 a2 a3 a4 a5 a6 a7 + bigV b0 b1 b2 b3 b4 b5 b6 b7) 4 := by simp only [bigD, bigV]; omega
  have e5 : d5 = bigD (bigV a0 a1 a2 a3 a4 a5 a6 a7 + bigV b0 b1 b2 b3 b4 b5 b6 b7) 5 := by simp only [bigD, bigV]; omega
  have e6 : d6 = bigD (bigV a0 a1 a2 a3 a4 a5 a6 a7 + bigV b0 b1 b2 b3 b4 b5 b6 b7) 6 := by simp only [bigD, bigV]; omega
  have e7 : d7 = bigD (bigV a0 a1 a2 a3 a4 a5 a6 a7 + bigV b0 b1 b2 b3 b4 b5 b6 b7) 7 := by simp only [bigD, bigV]; omega
  rw [e0, e1, e2, e3, e4, e5, e6, e7]
  rfl


/-! ### offertoryref09_Neg: function 20 -/
def offertoryref09_Neg.f (a0_0 a0_1 a0_2 a0_3 a0_4 a0_5 a0_6 a0_7 : Int) : Option (Int × Int × Int × Int × Int × Int × Int × Int) :=
  if Dig a0_0 a0_1 a0_2 a0_3 a0_4 a0_5 a0_6 a0_7 then some (digs (340282366920938463463374607431768211456 - bigV a0_0 a0_1 a0_2 a0_3 a0_4 a0_5 a0_6 a0_7)) else none
set_option maxHeartbeats 1600000 in
set_option maxRecDepth 100000 in
theorem offertoryref09_Neg.calls (a0_0 a0_1 a0_2 a0_3 a0_4 a0_5 a0_6 a0_7 r1 r2 r3 r4 r5 r6 r7 r8 : Int) (w : World) (h : offertoryref09_Neg.f a0_0 a0_1 a0_2 a0_3 a0_4 a0_5 a0_6 a0_7 = some (r1, r2, r3, r4, r5, r6, r7, r8)) :
    Calls Try.prog 20 #[.agg #[.int .u32 a0_0, .int .u32 a0_1, .int .u32 a0_2, .int .u32 a0_3, .int .u32 a0_4, .int .u32 a0_5, .int .u32 a0_6, .int .u32 a0_7]] w fun e w' => e = .returned (.agg #[.int .u32 r1, .int .u32 r2, .int .u32 r3, .int .u32 r4, .int .u32 r5, .int .u32 r6, .int .u32 r7, .int .u32 r8]) ∧ Below w.heap.size w w' := by
  unfold offertoryref09_Neg.f at h
  split at h
  case isFalse => cases h
  rename_i hr
  unfold Dig at hr
  have hadd : offertoryref09_Add.f (65535 - a0_0) (65535 - a0_1) (65535 - a0_2) (65535 - a0_3) (65535 - a0_4) (65535 - a0_5) (65535 - a0_6) (65535 - a0_7) 1 0 0 0 0 0 0 0 = some (r1, r2, r3, r4, r5, r6, r7, r8) := by
    unfold offertoryref09_Add.f
    rw [if_pos ⟨by unfold Dig; omega, by unfold Dig; omega⟩]
    rw [← h]
    congr 2
    simp only [bigV]
    omega
  have HADD := Aside0.mk hadd
  clear hadd h
  obtain ⟨⟨l0, m0⟩, ⟨l1, m1⟩, ⟨l2, m2⟩, ⟨l3, m3⟩, ⟨l4, m4⟩, ⟨l5, m5⟩, ⟨l6, m6⟩, ⟨l7, m7⟩⟩ := hr
  have hu29 := Try.underlying52
  go_enter Try.func20, Try.ntmps20
  go_wp2
  refine wp_loop_rounds 9 ?_
  rw [rounds_succ]
  go_wp2
  rw [rounds_succ]
  go_wp2
  rw [rounds_succ]
  go_wp2
  rw [rounds_succ]
  go_wp2
  rw [rounds_succ]
  go_wp2
  rw [rounds_succ]
  go_wp2
  rw [rounds_succ]
  go_wp2
  rw [rounds_succ]
  go_wp2
  rw [rounds_succ]
  go_wp2_with fail
  go_at_call 22
  refine (offertoryref09_Add.calls (65535 - a0_0) (65535 - a0_1) (65535 - a0_2) (65535 - a0_3) (65535 - a0_4) (65535 - a0_5) (65535 - a0_6) (65535 - a0_7) 1 0 0 0 0 0 0 0 r1 r2 r3 r4 r5 r6 r7 r8 _ HADD.out).mono ?_
  rintro e w' ⟨rfl, hb⟩
  have hR : ArrAt w' (w.heap.size + 1) 52 .u32 [0, 0, 0, 0, 0, 0, 0, 0] := by
    refine ArrAt.below ?_ hb
    have h := blk_new (w.alloc (.cells #[.int .u32 (65535 - a0_0), .int .u32 (65535 - a0_1), .int .u32 (65535 - a0_2), .int .u32 (65535 - a0_3), .int .u32 (65535 - a0_4), .int .u32 (65535 - a0_5), .int .u32 (65535 - a0_6), .int .u32 (65535 - a0_7)] 52)) (.cells (nums .u32 [0, 0, 0, 0, 0, 0, 0, 0]).toArray 52)
    rw [alloc_size] at h
    exact h
  have HB := Aside0.mk (below_step (w := w) (by repeat (first | (with_reducible exact Below.refl _ _) | apply below_alloc | apply below_drew)) hb)
  have HR := Aside0.mk hR
  have d0 := hR.get 0 (by decide)
  have f0 := hR.frz 0
  have d1 := hR.get 1 (by decide)
  have f1 := hR.frz 1
  have d2 := hR.get 2 (by decide)
  have f2 := hR.frz 2
  have d3 := hR.get 3 (by decide)
  have f3 := hR.frz 3
  have d4 := hR.get 4 (by decide)
  have f4 := hR.frz 4
  have d5 := hR.get 5 (by decide)
  have f5 := hR.frz 5
  have d6 := hR.get 6 (by decide)
  have f6 := hR.frz 6
  have d7 := hR.get 7 (by decide)
  have f7 := hR.frz 7
  clear hb hR
  go_wp2
  have hp := HR.out.put8 [r1, r2, r3, r4, r5, r6, r7, r8] rfl rfl
  refine bodyPost_ret (results_cell_row rfl _ _ (w.heap.size + 1) 52 (nums .u32 [r1, r2, r3, r4, r5, r6, r7, r8]).toArray (0, 0) _ rfl hp Try.underlying52 rfl (by kernel_rfl)) rfl ⟨rfl, ?_⟩
  repeat (first | (with_reducible exact HB.out) | (refine below_set ?_ (by omega)))


end Go.Proofs.Yticihbccflflfaa.PAll
