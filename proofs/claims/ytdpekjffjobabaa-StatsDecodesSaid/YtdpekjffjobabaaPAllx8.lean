/- The Go functions that the laws reach, as Lean functions, and that each call comes to what its function says. Written by a program of this session (a turned copy of the kit's print). No condition beyond those that each theorem states. -/
import Derived.Test.YtdpekjffjobabaaPAllx0
import Derived.Test.YtdpekjffjobabaaPAllx1
import Derived.Test.YtdpekjffjobabaaPAllx4
import Derived.Test.YtdpekjffjobabaaPAllx7
namespace Go.Proofs.Ytdpekjffjobabaa.PAll
open Go.RowKit Go.Proofs.YtdpekjffjobabaaW.PrintWords Go.Proofs.YtdpekjffjobabaaW.PrintLast Go.Proofs.YtdpekjffjobabaaW.PrintMore
attribute [local go_sem] max2_int min2_int max_two min_two max_three min_three max_four min_four   -- for this text's walks alone
set_option linter.unusedVariables false
set_option linter.unusedSimpArgs false

attribute [local go_sem high] eqA27
/-! ### slices_Equal_int_int: function 40 -/
def slices_Equal_int_int.l0 : Nat → List Int → List Int → Int → Int → Option (Bool)
  | 0, _, _, _, _ => none
  | k + 1, x0, x1, x12, x13 => if x13 < x12 then (if 0 ≤ x13 then (if x13 < (x0.length : Int) then (if x13 < (x1.length : Int) then (if (rd x0 x13) = (rd x1 x13) then (slices_Equal_int_int.l0 k x0 x1 x12 (wrap64 (x13 + 1))) else (some false)) else (none)) else (none)) else (none)) else (some true)
def slices_Equal_int_int.f (k : Nat) (l0 : List Int) (l1 : List Int) : Option (Bool) := if (l0.length : Int) = (l1.length : Int) then (slices_Equal_int_int.l0 k l0 l1 (l0.length : Int) 0) else (some false)
theorem slices_Equal_int_int.mono_l : ∀ k, (∀ y0 y1 y2 y3, LeO (slices_Equal_int_int.l0 k y0 y1 y2 y3) (slices_Equal_int_int.l0 (k + 1) y0 y1 y2 y3))
  | 0 => fun _ _ _ _ r h => by simp [slices_Equal_int_int.l0] at h
  | k + 1 => by
    have ih0 := slices_Equal_int_int.mono_l k
    · intro y0 y1 y2 y3
      unfold slices_Equal_int_int.l0
      repeat' first
      | (with_reducible exact ih0 _ _ _ _)
      | (with_reducible exact LeO.refl _)
      | (with_reducible exact LeO.none _)
      | (with_reducible refine LeO.ite ?_ ?_)
      | (with_reducible refine LeO.bind ?_ (fun _ => ?_))
      | exact ih0 _ _ _ _
      | exact LeO.none _
      | refine LeO.ite ?_ ?_
      | refine LeO.bind ?_ (fun _ => ?_)
theorem slices_Equal_int_int.mono : ∀ a0 a1 k, LeO (slices_Equal_int_int.f k a0 a1) (slices_Equal_int_int.f (k + 1) a0 a1) := by
  intro a0 a1 k
  have ih0 := slices_Equal_int_int.mono_l k
  unfold slices_Equal_int_int.f
  repeat' first
      | (with_reducible exact ih0 _ _ _ _)
      | (with_reducible exact LeO.refl _)
      | (with_reducible exact LeO.none _)
      | (with_reducible refine LeO.ite ?_ ?_)
      | (with_reducible refine LeO.bind ?_ (fun _ => ?_))
      | exact ih0 _ _ _ _
      | exact LeO.none _
      | refine LeO.ite ?_ ?_
      | refine LeO.bind ?_ (fun _ => ?_)
set_option maxHeartbeats 8000000 in
set_option maxRecDepth 100000 in
theorem slices_Equal_int_int.calls (k : Nat) (A0 : Option Addr) (c0 : Nat) (l0 : List Int) (A1 : Option Addr) (c1 : Nat) (l1 : List Int) (r : Bool) (w : World) (hr0 : Kd.C (Kd.int .i64) w A0 l0.length l0) (hc0 : l0.length ≤ c0) (hr1 : Kd.C (Kd.int .i64) w A1 l1.length l1) (hc1 : l1.length ≤ c1) (h : slices_Equal_int_int.f k l0 l1 = some r) :
    Calls Try.prog 40 #[.slice A0 l0.length c0, .slice A1 l1.length c1] w fun e w' => e = .returned (.bool r) ∧ Drawn0 w w' := by
  have HR0 := Aside0.mk hr0
  have HC0 := Aside0.mk hc0
  clear hr0 hc0
  have HR1 := Aside0.mk hr1
  have HC1 := Aside0.mk hc1
  clear hr1 hc1
  have H : (if (l0.length : Int) = (l1.length : Int) then (slices_Equal_int_int.l0 k l0 l1 (l0.length : Int) 0) else (some false)) = some r := h
  clear h
  by_cases c3 : (l0.length : Int) = (l1.length : Int)
  · rw [if_pos c3] at H
    have c3b0 : ((l0.length : Int) == (l1.length : Int)) = true := beq_iff_eq.mpr c3
    have c3b1 : ((l0.length : Int) != (l1.length : Int)) = false := bne_eq_false_iff_eq.mpr c3
    have c3b2 : (l0.length == l1.length) = true := by first | simpa using c3 | (simp at c3 ⊢; omega)
    clear c3
    have H' := Aside0.mk H
    clear H
    go_enter Try.func40, Try.ntmps40
    go_wp2
    repeat (go_quiet (fail); try go_wp2)
    go_loopg [13] k (fun kq v13 w' => ∃ (x13_1 : Int), v13 = .int .i64 x13_1 ∧ Aside0 (slices_Equal_int_int.l0 kq l0 l1 (l0.length : Int) x13_1 = some r) ∧ Aside0 (kq ≤ k) ∧ Drawn0 w w')
    case atStart => exact ⟨(0), (by first | rfl | (simp; done) | (simp [*]; done)), H', ⟨Nat.le_refl _⟩, by repeat (first | exact Drawn0.refl _ | apply Drawn0.step)⟩
    case round =>
      clear H'
      try clear c1
      try clear p2
      try clear c3
      try clear c3b0
      try clear c3b1
      try clear c3b2
      obtain ⟨x13_1, rfl, HA, HK1, ⟨m1, rfl⟩⟩ := hrel
      cases gk with
      | zero => exact absurd HA.out (by simp [slices_Equal_int_int.l0])
      | succ k1 =>
        have H := HA.out
        clear HA
        simp only [slices_Equal_int_int.l0] at H
        by_cases c4 : x13_1 < (l0.length : Int)
        · rw [if_pos c4] at H
          have c4b0 : decide (x13_1 < (l0.length : Int)) = true := decide_eq_true c4
          clear c4
          by_cases c5 : 0 ≤ x13_1
          · rw [if_pos c5] at H
            have c5b0 : decide (0 ≤ x13_1) = true := decide_eq_true c5
            clear c5
            by_cases c6 : x13_1 < (l0.length : Int)
            · rw [if_pos c6] at H
              have c6b0 : decide (x13_1 < (l0.length : Int)) = true := decide_eq_true c6
              clear c6
              by_cases c7 : x13_1 < (l1.length : Int)
              · rw [if_pos c7] at H
                have c7b0 : decide (x13_1 < (l1.length : Int)) = true := decide_eq_true c7
                clear c7
                by_cases c8 : (rd l0 x13_1) = (rd l1 x13_1)
                · rw [if_pos c8] at H
                  have c8b0 : ((rd l0 x13_1) == (rd l1 x13_1)) = true := beq_iff_eq.mpr c8
                  have c8b1 : ((rd l0 x13_1) != (rd l1 x13_1)) = false := bne_eq_false_iff_eq.mpr c8
                  clear c8
                  have H' := Aside0.mk H
                  clear H
                  have p191 : 0 ≤ (x13_1 : Int) := of_decide_eq_true (by first | (with_reducible assumption) | assumption)
                  have q191 : x13_1 < (l0.length : Int) := of_decide_eq_true (by first | (with_reducible assumption) | assumption)
                  obtain ⟨ad191, e191, hx191_0⟩ := Kd.at_int HR0.out x13_1 p191 q191
                  cases e191
                  replace p191 := eq_true p191
                  replace q191 := eq_true q191
                  have p192 : 0 ≤ (x13_1 : Int) := of_decide_eq_true (by first | (with_reducible assumption) | assumption)
                  have q192 : x13_1 < (l1.length : Int) := of_decide_eq_true (by first | (with_reducible assumption) | assumption)
                  obtain ⟨ad192, e192, hx192_0⟩ := Kd.at_int HR1.out x13_1 p192 q192
                  cases e192
                  replace p192 := eq_true p192
                  replace q192 := eq_true q192
                  go_wp2
                  repeat (go_quiet (fail); try go_wp2)
                  go_roundg k1
                  case measure => have := HK1.out; omega
                  case rel => exact ⟨(wrap64 (x13_1 + 1)), (by first | rfl | (simp; done) | (simp [*]; done)), H', ⟨by have := HK1.out; omega⟩, by repeat (first | exact Drawn0.refl _ | apply Drawn0.step)⟩
                · rw [if_neg c8] at H
                  have c8b0 : ((rd l0 x13_1) == (rd l1 x13_1)) = false := beq_eq_false_iff_ne.mpr c8
                  have c8b1 : ((rd l0 x13_1) != (rd l1 x13_1)) = true := bne_iff_ne.mpr c8
                  obtain rfl := Option.some.inj H
                  have p191 : 0 ≤ (x13_1 : Int) := of_decide_eq_true (by first | (with_reducible assumption) | assumption)
                  have q191 : x13_1 < (l0.length : Int) := of_decide_eq_true (by first | (with_reducible assumption) | assumption)
                  obtain ⟨ad191, e191, hx191_0⟩ := Kd.at_int HR0.out x13_1 p191 q191
                  cases e191
                  replace p191 := eq_true p191
                  replace q191 := eq_true q191
                  have p192 : 0 ≤ (x13_1 : Int) := of_decide_eq_true (by first | (with_reducible assumption) | assumption)
                  have q192 : x13_1 < (l1.length : Int) := of_decide_eq_true (by first | (with_reducible assumption) | assumption)
                  obtain ⟨ad192, e192, hx192_0⟩ := Kd.at_int HR1.out x13_1 p192 q192
                  cases e192
                  replace p192 := eq_true p192
                  replace q192 := eq_true q192
                  go_wp2
                  repeat (go_quiet (fail); try go_wp2)
                  go_ret
                  exact ⟨by first | rfl | (simp; done) | (simp [*]; done), by repeat (first | exact Drawn0.refl _ | apply Drawn0.step)⟩
              · rw [if_neg c7] at H
                exact absurd H (by simp)
            · rw [if_neg c6] at H
              exact absurd H (by simp)
          · rw [if_neg c5] at H
            exact absurd H (by simp)
        · rw [if_neg c4] at H
          have c4b0 : decide (x13_1 < (l0.length : Int)) = false := decide_eq_false c4
          clear c4
          obtain rfl := Option.some.inj H
          go_wp2
          repeat (go_quiet (fail); try go_wp2)
          go_ret
          exact ⟨by first | rfl | (simp; done) | (simp [*]; done), by repeat (first | exact Drawn0.refl _ | apply Drawn0.step)⟩
  · rw [if_neg c3] at H
    have c3b0 : ((l0.length : Int) == (l1.length : Int)) = false := beq_eq_false_iff_ne.mpr c3
    have c3b1 : ((l0.length : Int) != (l1.length : Int)) = true := bne_iff_ne.mpr c3
    have c3b2 : (l0.length == l1.length) = false := by first | simpa using c3 | (simp at c3 ⊢; omega)
    obtain rfl := Option.some.inj H
    go_enter Try.func40, Try.ntmps40
    go_wp2
    repeat (go_quiet (fail); try go_wp2)
    go_ret
    exact ⟨by first | rfl | (simp; done) | (simp [*]; done), by repeat (first | exact Drawn0.refl _ | apply Drawn0.step)⟩

theorem stats_Same.keepB {W0 W w1 : World} {g : Nat} {o : Obj} (h : Aside0 (W0.heap[g]? = some o)) (hb : Below W.heap.size W w1) (hs : W0.heap[g]? = some o → W.heap[g]? = some o := by intro h_; (with_reducible repeat (first | refine blk_drewN ?_ _ | refine blk_drew ?_ | refine blk_alloc ?_ _)); exact h_) : Aside0 (w1.heap[g]? = some o) := ⟨(hb.block g (blk_lt (hs h.out))).trans (hs h.out)⟩
theorem stats_Same.neL {W0 W : World} {g gb : Nat} {o : Obj} (h : Aside0 (W0.heap[g]? = some o)) (hg : gb = W.heap.size) (hs : W0.heap[g]? = some o → W.heap[g]? = some o := by intro h_; (with_reducible repeat (first | refine blk_drewN ?_ _ | refine blk_drew ?_ | refine blk_alloc ?_ _)); exact h_) : Aside0 (g ≠ gb) := ⟨by rw [hg]; exact Nat.ne_of_lt (blk_lt (hs h.out))⟩
theorem stats_Same.neG {W0 W : World} {g gb : Nat} {o : Obj} (h : Aside0 (W0.heap[g]? = some o)) (hg : gb = W.heap.size) (hs : W0.heap[g]? = some o → W.heap[g]? = some o := by intro h_; (with_reducible repeat (first | refine blk_drewN ?_ _ | refine blk_drew ?_ | refine blk_alloc ?_ _)); exact h_) : Aside0 (gb ≠ g) := ⟨by rw [hg]; exact Nat.ne_of_gt (blk_lt (hs h.out))⟩
/-! ### stats_Same: function 17 -/
def stats_Same.f (k : Nat) (l0_0 : List Int) (a0_1 : Int) (a0_2 : Int) (a0_3 : Int) (a0_4 : Int) (a0_5 : Int) (a0_6 : Bool) (l1_0 : List Int) (a1_1 : Int) (a1_2 : Int) (a1_3 : Int) (a1_4 : Int) (a1_5 : Int) (a1_6 : Bool) : Option (Bool) := (slices_Equal_int_int.f k l0_0 l1_0).bind fun t195 => (if t195 = true then (if a0_1 = a1_1 then (if (a0_2 == a1_2 && (a0_3 == a1_3)) = true then (if (a0_4 == a1_4 && (a0_5 == a1_5)) = true then (some (a0_6 == a1_6)) else (some false)) else (some false)) else (some false)) else (some false))
theorem stats_Same.mono : ∀ a0 a1 a2 a3 a4 a5 a6 a7 a8 a9 a10 a11 a12 a13 k, LeO (stats_Same.f k a0 a1 a2 a3 a4 a5 a6 a7 a8 a9 a10 a11 a12 a13) (stats_Same.f (k + 1) a0 a1 a2 a3 a4 a5 a6 a7 a8 a9 a10 a11 a12 a13) := by
  intro a0 a1 a2 a3 a4 a5 a6 a7 a8 a9 a10 a11 a12 a13 k
  unfold stats_Same.f
  repeat' first
      | (with_reducible exact slices_Equal_int_int.mono _ _ _)
      | (with_reducible exact LeO.refl _)
      | (with_reducible exact LeO.none _)
      | (with_reducible refine LeO.ite ?_ ?_)
      | (with_reducible refine LeO.bind ?_ (fun _ => ?_))
      | exact slices_Equal_int_int.mono _ _ _
      | exact LeO.none _
      | refine LeO.ite ?_ ?_
      | refine LeO.bind ?_ (fun _ => ?_)
set_option maxHeartbeats 8000000 in
set_option maxRecDepth 100000 in
theorem stats_Same.calls (k : Nat) (A0_0 : Option Addr) (c0_0 : Nat) (l0_0 : List Int) (a0_1 : Int) (a0_2 : Int) (a0_3 : Int) (a0_4 : Int) (a0_5 : Int) (a0_6 : Bool) (A1_0 : Option Addr) (c1_0 : Nat) (l1_0 : List Int) (a1_1 : Int) (a1_2 : Int) (a1_3 : Int) (a1_4 : Int) (a1_5 : Int) (a1_6 : Bool) (r : Bool) (w : World) (hr0_0 : Kd.C (Kd.int .i64) w A0_0 l0_0.length l0_0) (hc0_0 : l0_0.length ≤ c0_0) (hr1_0 : Kd.C (Kd.int .i64) w A1_0 l1_0.length l1_0) (hc1_0 : l1_0.length ≤ c1_0) (h : stats_Same.f k l0_0 a0_1 a0_2 a0_3 a0_4 a0_5 a0_6 l1_0 a1_1 a1_2 a1_3 a1_4 a1_5 a1_6 = some r) :
    Calls Try.prog 17 #[.agg #[.slice A0_0 l0_0.length c0_0, .int .i64 a0_1, .int .u64 a0_2, .int .u64 a0_3, .int .u64 a0_4, .int .u64 a0_5, .bool a0_6], .agg #[.slice A1_0 l1_0.length c1_0, .int .i64 a1_1, .int .u64 a1_2, .int .u64 a1_3, .int .u64 a1_4, .int .u64 a1_5, .bool a1_6]] w fun e w' => e = .returned (.bool r) ∧ Below w.heap.size w w' := by
  have hu29 := Try.underlying29
  have hu27 := Try.underlying27
  have HR0_0 := Aside0.mk hr0_0
  have HC0_0 := Aside0.mk hc0_0
  clear hr0_0 hc0_0
  have HR1_0 := Aside0.mk hr1_0
  have HC1_0 := Aside0.mk hc1_0
  clear hr1_0 hc1_0
  have HB := Aside0.mk (Below.refl w.heap.size w)
  have H : ((slices_Equal_int_int.f k l0_0 l1_0).bind fun t195 => (if t195 = true then (if a0_1 = a1_1 then (if (a0_2 == a1_2 && (a0_3 == a1_3)) = true then (if (a0_4 == a1_4 && (a0_5 == a1_5)) = true then (some (a0_6 == a1_6)) else (some false)) else (some false)) else (some false)) else (some false))) = some r := h
  clear h
  replace H := Option.bind_eq_some_iff.mp H
  obtain ⟨t195, A30, H⟩ := H
  replace H : (if t195 = true then (if a0_1 = a1_1 then (if (a0_2 == a1_2 && (a0_3 == a1_3)) = true then (if (a0_4 == a1_4 && (a0_5 == a1_5)) = true then (some (a0_6 == a1_6)) else (some false)) else (some false)) else (some false)) else (some false)) = some r := H
  have A3 := Aside0.mk A30
  clear A30
  by_cases c4 : t195 = true
  · subst c4
    have H1 : (if a0_1 = a1_1 then (if (a0_2 == a1_2 && (a0_3 == a1_3)) = true then (if (a0_4 == a1_4 && (a0_5 == a1_5)) = true then (some (a0_6 == a1_6)) else (some false)) else (some false)) else (some false)) = some r := by rw [if_pos rfl] at H; exact H
    clear H
    have H := H1
    clear H1
    by_cases c5 : a0_1 = a1_1
    · rw [if_pos c5] at H
      have c5b0 : (a0_1 == a1_1) = true := beq_iff_eq.mpr c5
      have c5b1 : (a0_1 != a1_1) = false := bne_eq_false_iff_eq.mpr c5
      clear c5
      by_cases c6 : (a0_2 == a1_2 && (a0_3 == a1_3)) = true
      · rw [if_pos c6] at H
        have c6b0 : (a0_2 == a1_2 && (a0_3 == a1_3)) = true := c6
        (try (have c6b1 : decide (a0_2 = a1_2 && (a0_3 == a1_3)) = true := by first | decide | simpa using c6))
        (try (have c6b2 : (a0_2 == a1_2 && (a0_3 == a1_3)) = true := by first | decide | simpa using c6))
        clear c6
        by_cases c7 : (a0_4 == a1_4 && (a0_5 == a1_5)) = true
        · rw [if_pos c7] at H
          have c7b0 : (a0_4 == a1_4 && (a0_5 == a1_5)) = true := c7
          (try (have c7b1 : decide (a0_4 = a1_4 && (a0_5 == a1_5)) = true := by first | decide | simpa using c7))
          (try (have c7b2 : (a0_4 == a1_4 && (a0_5 == a1_5)) = true := by first | decide | simpa using c7))
          clear c7
          obtain rfl := Option.some.inj H
          go_enter Try.func17, Try.ntmps17
          go_wp2_with (first | ((with_reducible refine gate_dst (N := 2) rfl ?_); refine box_event ?hg (N := 2) ?hd (cs := #[.slice A0_0 l0_0.length c0_0, .int .i64 a0_1, .int .u64 a0_2, .int .u64 a0_3, .int .u64 a0_4, .int .u64 a0_5, .bool a0_6]) (t := 29) ?hr ?_; (case hd => rfl); (case hg => rfl); (case hr => first | (go_simp; done) | (go_simp; rfl)); intro gb193 hg w8 hbox hb; have n0_ := Aside0.mk (below_step (by repeat (first | (with_reducible first | exact HB.out | apply below_alloc | apply pw_below_drewN | apply below_drew1) | exact HB.out)) hb); have n1_ := Aside0.mk (hbox); have n2_ := Aside0.mk ((by rw [hg]; exact (below_size (by repeat (first | (with_reducible first | exact HB.out | apply below_alloc | apply pw_below_drewN | apply below_drew1) | exact HB.out))) : w.heap.size ≤ gb193)); have n3_ := Aside0.mk ((by rw [hg]; exact (below_size (by repeat (first | (with_reducible first | exact HB.out | apply below_alloc | apply pw_below_drewN | apply below_drew1) | exact HB.out))) : w.heap.size ≤ gb193)); clear HB; have HB := n0_; have BK193 := n1_; have GW193 := n2_; have GE193 := n3_; clear n0_ n1_ n2_ n3_; clear hb hbox hg) | ((with_reducible refine gate_dst (N := 3) rfl ?_); refine box_event ?hg (N := 3) ?hd (cs := #[.slice A1_0 l1_0.length c1_0, .int .i64 a1_1, .int .u64 a1_2, .int .u64 a1_3, .int .u64 a1_4, .int .u64 a1_5, .bool a1_6]) (t := 29) ?hr ?_; (case hd => rfl); (case hg => rfl); (case hr => first | (go_simp; done) | (go_simp; rfl)); intro gb194 hg w9 hbox hb; have n0_ := stats_Same.keepB BK193 hb; have n1_ := Aside0.mk (below_step (by repeat (first | (with_reducible first | exact HB.out | apply below_alloc | apply pw_below_drewN | apply below_drew1 | refine below_set ?_ GE193.out) | exact HB.out)) hb); have n2_ := Aside0.mk (hbox); have n3_ := Aside0.mk ((by rw [hg]; exact (below_size (by repeat (first | (with_reducible first | exact HB.out | apply below_alloc | apply pw_below_drewN | apply below_drew1 | refine below_set ?_ GE193.out) | exact HB.out))) : w.heap.size ≤ gb194)); have n4_ := Aside0.mk ((by rw [hg]; exact (below_size (by repeat (first | (with_reducible first | exact HB.out | apply below_alloc | apply pw_below_drewN | apply below_drew1 | refine below_set ?_ GE193.out) | exact HB.out))) : w.heap.size ≤ gb194)); have n5_ := stats_Same.neL BK193 hg; have n6_ := stats_Same.neG BK193 hg; clear BK193; clear HB; have BK193 := n0_; have HB := n1_; have BK194 := n2_; have GW194 := n3_; have GE194 := n4_; have NB193_194 := n5_; have NB194_193 := n6_; clear n0_ n1_ n2_ n3_ n4_ n5_ n6_; clear hb hbox hg; have hnb10 := NB193_194.out; have hnc10 := NB194_193.out; have hcz11_0 : w9.cell? ⟨gb193, 0, none⟩ = some (.slice A0_0 l0_0.length c0_0) := (blk_cell BK193.out 0).trans rfl; have hcz11_1 : w9.cell? ⟨gb193, 1, none⟩ = some (.int .i64 a0_1) := (blk_cell BK193.out 1).trans rfl; have hcz11_2 : w9.cell? ⟨gb193, 2, none⟩ = some (.int .u64 a0_2) := (blk_cell BK193.out 2).trans rfl; have hcz11_3 : w9.cell? ⟨gb193, 3, none⟩ = some (.int .u64 a0_3) := (blk_cell BK193.out 3).trans rfl; have hcz11_4 : w9.cell? ⟨gb193, 4, none⟩ = some (.int .u64 a0_4) := (blk_cell BK193.out 4).trans rfl; have hcz11_5 : w9.cell? ⟨gb193, 5, none⟩ = some (.int .u64 a0_5) := (blk_cell BK193.out 5).trans rfl; have hcz11_6 : w9.cell? ⟨gb193, 6, none⟩ = some (.bool a0_6) := (blk_cell BK193.out 6).trans rfl; have hfz11_0 := blk_frozen BK193.out 0; have hfz11_1 := blk_frozen BK193.out 1; have hfz11_2 := blk_frozen BK193.out 2; have hfz11_3 := blk_frozen BK193.out 3; have hfz11_4 := blk_frozen BK193.out 4; have hfz11_5 := blk_frozen BK193.out 5; have hfz11_6 := blk_frozen BK193.out 6; have hcz12_0 : w9.cell? ⟨gb194, 0, none⟩ = some (.slice A1_0 l1_0.length c1_0) := (blk_cell BK194.out 0).trans rfl; have hcz12_1 : w9.cell? ⟨gb194, 1, none⟩ = some (.int .i64 a1_1) := (blk_cell BK194.out 1).trans rfl; have hcz12_2 : w9.cell? ⟨gb194, 2, none⟩ = some (.int .u64 a1_2) := (blk_cell BK194.out 2).trans rfl; have hcz12_3 : w9.cell? ⟨gb194, 3, none⟩ = some (.int .u64 a1_3) := (blk_cell BK194.out 3).trans rfl; have hcz12_4 : w9.cell? ⟨gb194, 4, none⟩ = some (.int .u64 a1_4) := (blk_cell BK194.out 4).trans rfl; have hcz12_5 : w9.cell? ⟨gb194, 5, none⟩ = some (.int .u64 a1_5) := (blk_cell BK194.out 5).trans rfl; have hcz12_6 : w9.cell? ⟨gb194, 6, none⟩ = some (.bool a1_6) := (blk_cell BK194.out 6).trans rfl; have hfz12_0 := blk_frozen BK194.out 0; have hfz12_1 := blk_frozen BK194.out 1; have hfz12_2 := blk_frozen BK194.out 2; have hfz12_3 := blk_frozen BK194.out 3; have hfz12_4 := blk_frozen BK194.out 4; have hfz12_5 := blk_frozen BK194.out 5; have hfz12_6 := blk_frozen BK194.out 6) | ((with_reducible refine gate_callee (f := 40) rfl ?_); refine goesL_ (some 9) rfl rfl Try.func40 (by kernel_rfl) rfl #[.slice A0_0 l0_0.length c0_0, .slice A1_0 l1_0.length c1_0] rfl (by (try simp only [List.map_toArray, List.map_cons, List.map_nil]); first | done | rfl | (simp only [List.length_drop, List.length_take]; rfl)) ?_; (with_reducible refine (slices_Equal_int_int.calls k _ _ l0_0 _ _ l1_0 true _ ?side1 ?side2 ?side3 ?side4 A3.out).mono ?_); (case side1 => repeat (first | exact (Kd.C_below HR0_0.out HB.out) | (with_reducible refine Kd.C_alloc ?_ _) | (with_reducible refine Kd.C_drewN ?_ _) | (with_reducible refine Kd.C_drew ?_))); (case side2 => exact HC0_0.out); (case side3 => repeat (first | exact (Kd.C_below HR1_0.out HB.out) | (with_reducible refine Kd.C_alloc ?_ _) | (with_reducible refine Kd.C_drewN ?_ _) | (with_reducible refine Kd.C_drew ?_))); (case side4 => exact HC1_0.out); rintro e w' ⟨rfl, ⟨nd, rfl⟩⟩; refine ⟨_, rfl, ?_⟩))
          go_ret
          exact ⟨by first | rfl | (simp [errW_none, errW_some] <;> rfl) | (simp [*, errW_none, errW_some] <;> rfl), by repeat (first | (with_reducible first | exact HB.out | apply below_alloc | apply pw_below_drewN | apply below_drew1 | refine below_set ?_ GE193.out | refine below_set ?_ GE194.out) | exact HB.out)⟩
        · rw [if_neg c7] at H
          have c7b0 : (a0_4 == a1_4 && (a0_5 == a1_5)) = false := by simpa using c7
          (try (have c7b1 : decide (a0_4 = a1_4 && (a0_5 == a1_5)) = false := by first | decide | simpa using c7))
          (try (have c7b2 : (a0_4 == a1_4 && (a0_5 == a1_5)) = false := by first | decide | simpa using c7))
          (try (have c7b3 : ¬ (a0_4 = a1_4 && (a0_5 == a1_5)) := by simpa using c7))
          clear c7
          obtain rfl := Option.some.inj H
          go_enter Try.func17, Try.ntmps17
          go_wp2_with (first | ((with_reducible refine gate_dst (N := 2) rfl ?_); refine box_event ?hg (N := 2) ?hd (cs := #[.slice A0_0 l0_0.length c0_0, .int .i64 a0_1, .int .u64 a0_2, .int .u64 a0_3, .int .u64 a0_4, .int .u64 a0_5, .bool a0_6]) (t := 29) ?hr ?_; (case hd => rfl); (case hg => rfl); (case hr => first | (go_simp; done) | (go_simp; rfl)); intro gb193 hg w13 hbox hb; have n0_ := Aside0.mk (below_step (by repeat (first | (with_reducible first | exact HB.out | apply below_alloc | apply pw_below_drewN | apply below_drew1) | exact HB.out)) hb); have n1_ := Aside0.mk (hbox); have n2_ := Aside0.mk ((by rw [hg]; exact (below_size (by repeat (first | (with_reducible first | exact HB.out | apply below_alloc | apply pw_below_drewN | apply below_drew1) | exact HB.out))) : w.heap.size ≤ gb193)); have n3_ := Aside0.mk ((by rw [hg]; exact (below_size (by repeat (first | (with_reducible first | exact HB.out | apply below_alloc | apply pw_below_drewN | apply below_drew1) | exact HB.out))) : w.heap.size ≤ gb193)); clear HB; have HB := n0_; have BK193 := n1_; have GW193 := n2_; have GE193 := n3_; clear n0_ n1_ n2_ n3_; clear hb hbox hg) | ((with_reducible refine gate_dst (N := 3) rfl ?_); refine box_event ?hg (N := 3) ?hd (cs := #[.slice A1_0 l1_0.length c1_0, .int .i64 a1_1, .int .u64 a1_2, .int .u64 a1_3, .int .u64 a1_4, .int .u64 a1_5, .bool a1_6]) (t := 29) ?hr ?_; (case hd => rfl); (case hg => rfl); (case hr => first | (go_simp; done) | (go_simp; rfl)); intro gb194 hg w14 hbox hb; have n0_ := stats_Same.keepB BK193 hb; have n1_ := Aside0.mk (below_step (by repeat (first | (with_reducible first | exact HB.out | apply below_alloc | apply pw_below_drewN | apply below_drew1 | refine below_set ?_ GE193.out) | exact HB.out)) hb); have n2_ := Aside0.mk (hbox); have n3_ := Aside0.mk ((by rw [hg]; exact (below_size (by repeat (first | (with_reducible first | exact HB.out | apply below_alloc | apply pw_below_drewN | apply below_drew1 | refine below_set ?_ GE193.out) | exact HB.out))) : w.heap.size ≤ gb194)); have n4_ := Aside0.mk ((by rw [hg]; exact (below_size (by repeat (first | (with_reducible first | exact HB.out | apply below_alloc | apply pw_below_drewN | apply below_drew1 | refine below_set ?_ GE193.out) | exact HB.out))) : w.heap.size ≤ gb194)); have n5_ := stats_Same.neL BK193 hg; have n6_ := stats_Same.neG BK193 hg; clear BK193; clear HB; have BK193 := n0_; have HB := n1_; have BK194 := n2_; have GW194 := n3_; have GE194 := n4_; have NB193_194 := n5_; have NB194_193 := n6_; clear n0_ n1_ n2_ n3_ n4_ n5_ n6_; clear hb hbox hg; have hnb15 := NB193_194.out; have hnc15 := NB194_193.out; have hcz16_0 : w14.cell? ⟨gb193, 0, none⟩ = some (.slice A0_0 l0_0.length c0_0) := (blk_cell BK193.out 0).trans rfl; have hcz16_1 : w14.cell? ⟨gb193, 1, none⟩ = some (.int .i64 a0_1) := (blk_cell BK193.out 1).trans rfl; have hcz16_2 : w14.cell? ⟨gb193, 2, none⟩ = some (.int .u64 a0_2) := (blk_cell BK193.out 2).trans rfl; have hcz16_3 : w14.cell? ⟨gb193, 3, none⟩ = some (.int .u64 a0_3) := (blk_cell BK193.out 3).trans rfl; have hcz16_4 : w14.cell? ⟨gb193, 4, none⟩ = some (.int .u64 a0_4) := (blk_cell BK193.out 4).trans rfl; have hcz16_5 : w14.cell? ⟨gb193, 5, none⟩ = some (.int .u64 a0_5) := (blk_cell BK193.out 5).trans rfl; have hcz16_6 : w14.cell? ⟨gb193, 6, none⟩ = some (.bool a0_6) := (blk_cell BK193.out 6).trans rfl; have hfz16_0 := blk_frozen BK193.out 0; have hfz16_1 := blk_frozen BK193.out 1; have hfz16_2 := blk_frozen BK193.out 2; have hfz16_3 := blk_frozen BK193.out 3; have hfz16_4 := blk_frozen BK193.out 4; have hfz16_5 := blk_frozen BK193.out 5; have hfz16_6 := blk_frozen BK193.out 6; have hcz17_0 : w14.cell? ⟨gb194, 0, none⟩ = some (.slice A1_0 l1_0.length c1_0) := (blk_cell BK194.out 0).trans rfl; have hcz17_1 : w14.cell? ⟨gb194, 1, none⟩ = some (.int .i64 a1_1) := (blk_cell BK194.out 1).trans rfl; have hcz17_2 : w14.cell? ⟨gb194, 2, none⟩ = some (.int .u64 a1_2) := (blk_cell BK194.out 2).trans rfl; have hcz17_3 : w14.cell? ⟨gb194, 3, none⟩ = some (.int .u64 a1_3) := (blk_cell BK194.out 3).trans rfl; have hcz17_4 : w14.cell? ⟨gb194, 4, none⟩ = some (.int .u64 a1_4) := (blk_cell BK194.out 4).trans rfl; have hcz17_5 : w14.cell? ⟨gb194, 5, none⟩ = some (.int .u64 a1_5) := (blk_cell BK194.out 5).trans rfl; have hcz17_6 : w14.cell? ⟨gb194, 6, none⟩ = some (.bool a1_6) := (blk_cell BK194.out 6).trans rfl; have hfz17_0 := blk_frozen BK194.out 0; have hfz17_1 := blk_frozen BK194.out 1; have hfz17_2 := blk_frozen BK194.out 2; have hfz17_3 := blk_frozen BK194.out 3; have hfz17_4 := blk_frozen BK194.out 4; have hfz17_5 := blk_frozen BK194.out 5; have hfz17_6 := blk_frozen BK194.out 6) | ((with_reducible refine gate_callee (f := 40) rfl ?_); refine goesL_ (some 9) rfl rfl Try.func40 (by kernel_rfl) rfl #[.slice A0_0 l0_0.length c0_0, .slice A1_0 l1_0.length c1_0] rfl (by (try simp only [List.map_toArray, List.map_cons, List.map_nil]); first | done | rfl | (simp only [List.length_drop, List.length_take]; rfl)) ?_; (with_reducible refine (slices_Equal_int_int.calls k _ _ l0_0 _ _ l1_0 true _ ?side1 ?side2 ?side3 ?side4 A3.out).mono ?_); (case side1 => repeat (first | exact (Kd.C_below HR0_0.out HB.out) | (with_reducible refine Kd.C_alloc ?_ _) | (with_reducible refine Kd.C_drewN ?_ _) | (with_reducible refine Kd.C_drew ?_))); (case side2 => exact HC0_0.out); (case side3 => repeat (first | exact (Kd.C_below HR1_0.out HB.out) | (with_reducible refine Kd.C_alloc ?_ _) | (with_reducible refine Kd.C_drewN ?_ _) | (with_reducible refine Kd.C_drew ?_))); (case side4 => exact HC1_0.out); rintro e w' ⟨rfl, ⟨nd, rfl⟩⟩; refine ⟨_, rfl, ?_⟩))
          go_ret
          exact ⟨by first | rfl | (simp [errW_none, errW_some] <;> rfl) | (simp [*, errW_none, errW_some] <;> rfl), by repeat (first | (with_reducible first | exact HB.out | apply below_alloc | apply pw_below_drewN | apply below_drew1 | refine below_set ?_ GE193.out | refine below_set ?_ GE194.out) | exact HB.out)⟩
      · rw [if_neg c6] at H
        have c6b0 : (a0_2 == a1_2 && (a0_3 == a1_3)) = false := by simpa using c6
        (try (have c6b1 : decide (a0_2 = a1_2 && (a0_3 == a1_3)) = false := by first | decide | simpa using c6))
        (try (have c6b2 : (a0_2 == a1_2 && (a0_3 == a1_3)) = false := by first | decide | simpa using c6))
        (try (have c6b3 : ¬ (a0_2 = a1_2 && (a0_3 == a1_3)) := by simpa using c6))
        clear c6
        obtain rfl := Option.some.inj H
        go_enter Try.func17, Try.ntmps17
        go_wp2_with (first | ((with_reducible refine gate_dst (N := 2) rfl ?_); refine box_event ?hg (N := 2) ?hd (cs := #[.slice A0_0 l0_0.length c0_0, .int .i64 a0_1, .int .u64 a0_2, .int .u64 a0_3, .int .u64 a0_4, .int .u64 a0_5, .bool a0_6]) (t := 29) ?hr ?_; (case hd => rfl); (case hg => rfl); (case hr => first | (go_simp; done) | (go_simp; rfl)); intro gb193 hg w18 hbox hb; have n0_ := Aside0.mk (below_step (by repeat (first | (with_reducible first | exact HB.out | apply below_alloc | apply pw_below_drewN | apply below_drew1) | exact HB.out)) hb); have n1_ := Aside0.mk (hbox); have n2_ := Aside0.mk ((by rw [hg]; exact (below_size (by repeat (first | (with_reducible first | exact HB.out | apply below_alloc | apply pw_below_drewN | apply below_drew1) | exact HB.out))) : w.heap.size ≤ gb193)); have n3_ := Aside0.mk ((by rw [hg]; exact (below_size (by repeat (first | (with_reducible first | exact HB.out | apply below_alloc | apply pw_below_drewN | apply below_drew1) | exact HB.out))) : w.heap.size ≤ gb193)); clear HB; have HB := n0_; have BK193 := n1_; have GW193 := n2_; have GE193 := n3_; clear n0_ n1_ n2_ n3_; clear hb hbox hg) | ((with_reducible refine gate_dst (N := 3) rfl ?_); refine box_event ?hg (N := 3) ?hd (cs := #[.slice A1_0 l1_0.length c1_0, .int .i64 a1_1, .int .u64 a1_2, .int .u64 a1_3, .int .u64 a1_4, .int .u64 a1_5, .bool a1_6]) (t := 29) ?hr ?_; (case hd => rfl); (case hg => rfl); (case hr => first | (go_simp; done) | (go_simp; rfl)); intro gb194 hg w19 hbox hb; have n0_ := stats_Same.keepB BK193 hb; have n1_ := Aside0.mk (below_step (by repeat (first | (with_reducible first | exact HB.out | apply below_alloc | apply pw_below_drewN | apply below_drew1 | refine below_set ?_ GE193.out) | exact HB.out)) hb); have n2_ := Aside0.mk (hbox); have n3_ := Aside0.mk ((by rw [hg]; exact (below_size (by repeat (first | (with_reducible first | exact HB.out | apply below_alloc | apply pw_below_drewN | apply below_drew1 | refine below_set ?_ GE193.out) | exact HB.out))) : w.heap.size ≤ gb194)); have n4_ := Aside0.mk ((by rw [hg]; exact (below_size (by repeat (first | (with_reducible first | exact HB.out | apply below_alloc | apply pw_below_drewN | apply below_drew1 | refine below_set ?_ GE193.out) | exact HB.out))) : w.heap.size ≤ gb194)); have n5_ := stats_Same.neL BK193 hg; have n6_ := stats_Same.neG BK193 hg; clear BK193; clear HB; have BK193 := n0_; have HB := n1_; have BK194 := n2_; have GW194 := n3_; have GE194 := n4_; have NB193_194 := n5_; have NB194_193 := n6_; clear n0_ n1_ n2_ n3_ n4_ n5_ n6_; clear hb hbox hg; have hnb20 := NB193_194.out; have hnc20 := NB194_193.out; have hcz21_0 : w19.cell? ⟨gb193, 0, none⟩ = some (.slice A0_0 l0_0.length c0_0) := (blk_cell BK193.out 0).trans rfl; have hcz21_1 : w19.cell? ⟨gb193, 1, none⟩ = some (.int .i64 a0_1) := (blk_cell BK193.out 1).trans rfl; have hcz21_2 : w19.cell? ⟨gb193, 2, none⟩ = some (.int .u64 a0_2) := (blk_cell BK193.out 2).trans rfl; have hcz21_3 : w19.cell? ⟨gb193, 3, none⟩ = some (.int .u64 a0_3) := (blk_cell BK193.out 3).trans rfl; have hcz21_4 : w19.cell? ⟨gb193, 4, none⟩ = some (.int .u64 a0_4) := (blk_cell BK193.out 4).trans rfl; have hcz21_5 : w19.cell? ⟨gb193, 5, none⟩ = some (.int .u64 a0_5) := (blk_cell BK193.out 5).trans rfl; have hcz21_6 : w19.cell? ⟨gb193, 6, none⟩ = some (.bool a0_6) := (blk_cell BK193.out 6).trans rfl; have hfz21_0 := blk_frozen BK193.out 0; have hfz21_1 := blk_frozen BK193.out 1; have hfz21_2 := blk_frozen BK193.out 2; have hfz21_3 := blk_frozen BK193.out 3; have hfz21_4 := blk_frozen BK193.out 4; have hfz21_5 := blk_frozen BK193.out 5; have hfz21_6 := blk_frozen BK193.out 6; have hcz22_0 : w19.cell? ⟨gb194, 0, none⟩ = some (.slice A1_0 l1_0.length c1_0) := (blk_cell BK194.out 0).trans rfl; have hcz22_1 : w19.cell? ⟨gb194, 1, none⟩ = some (.int .i64 a1_1) := (blk_cell BK194.out 1).trans rfl; have hcz22_2 : w19.cell? ⟨gb194, 2, none⟩ = some (.int .u64 a1_2) := (blk_cell BK194.out 2).trans rfl; have hcz22_3 : w19.cell? ⟨gb194, 3, none⟩ = some (.int .u64 a1_3) := (blk_cell BK194.out 3).trans rfl; have hcz22_4 : w19.cell? ⟨gb194, 4, none⟩ = some (.int .u64 a1_4) := (blk_cell BK194.out 4).trans rfl; have hcz22_5 : w19.cell? ⟨gb194, 5, none⟩ = some (.int .u64 a1_5) := (blk_cell BK194.out 5).trans rfl; have hcz22_6 : w19.cell? ⟨gb194, 6, none⟩ = some (.bool a1_6) := (blk_cell BK194.out 6).trans rfl; have hfz22_0 := blk_frozen BK194.out 0; have hfz22_1 := blk_frozen BK194.out 1; have hfz22_2 := blk_frozen BK194.out 2; have hfz22_3 := blk_frozen BK194.out 3; have hfz22_4 := blk_frozen BK194.out 4; have hfz22_5 := blk_frozen BK194.out 5; have hfz22_6 := blk_frozen BK194.out 6) | ((with_reducible refine gate_callee (f := 40) rfl ?_); refine goesL_ (some 9) rfl rfl Try.func40 (by kernel_rfl) rfl #[.slice A0_0 l0_0.length c0_0, .slice A1_0 l1_0.length c1_0] rfl (by (try simp only [List.map_toArray, List.map_cons, List.map_nil]); first | done | rfl | (simp only [List.length_drop, List.length_take]; rfl)) ?_; (with_reducible refine (slices_Equal_int_int.calls k _ _ l0_0 _ _ l1_0 true _ ?side1 ?side2 ?side3 ?side4 A3.out).mono ?_); (case side1 => repeat (first | exact (Kd.C_below HR0_0.out HB.out) | (with_reducible refine Kd.C_alloc ?_ _) | (with_reducible refine Kd.C_drewN ?_ _) | (with_reducible refine Kd.C_drew ?_))); (case side2 => exact HC0_0.out); (case side3 => repeat (first | exact (Kd.C_below HR1_0.out HB.out) | (with_reducible refine Kd.C_alloc ?_ _) | (with_reducible refine Kd.C_drewN ?_ _) | (with_reducible refine Kd.C_drew ?_))); (case side4 => exact HC1_0.out); rintro e w' ⟨rfl, ⟨nd, rfl⟩⟩; refine ⟨_, rfl, ?_⟩))
        go_ret
        exact ⟨by first | rfl | (simp [errW_none, errW_some] <;> rfl) | (simp [*, errW_none, errW_some] <;> rfl), by repeat (first | (with_reducible first | exact HB.out | apply below_alloc | apply pw_below_drewN | apply below_drew1 | refine below_set ?_ GE193.out | refine below_set ?_ GE194.out) | exact HB.out)⟩
    · rw [if_neg c5] at H
      have c5b0 : (a0_1 == a1_1) = false := beq_eq_false_iff_ne.mpr c5
      have c5b1 : (a0_1 != a1_1) = true := bne_iff_ne.mpr c5
      obtain rfl := Option.some.inj H
      go_enter Try.func17, Try.ntmps17
      go_wp2_with (first | ((with_reducible refine gate_dst (N := 2) rfl ?_); refine box_event ?hg (N := 2) ?hd (cs := #[.slice A0_0 l0_0.length c0_0, .int .i64 a0_1, .int .u64 a0_2, .int .u64 a0_3, .int .u64 a0_4, .int .u64 a0_5, .bool a0_6]) (t := 29) ?hr ?_; (case hd => rfl); (case hg => rfl); (case hr => first | (go_simp; done) | (go_simp; rfl)); intro gb193 hg w23 hbox hb; have n0_ := Aside0.mk (below_step (by repeat (first | (with_reducible first | exact HB.out | apply below_alloc | apply pw_below_drewN | apply below_drew1) | exact HB.out)) hb); have n1_ := Aside0.mk (hbox); have n2_ := Aside0.mk ((by rw [hg]; exact (below_size (by repeat (first | (with_reducible first | exact HB.out | apply below_alloc | apply pw_below_drewN | apply below_drew1) | exact HB.out))) : w.heap.size ≤ gb193)); have n3_ := Aside0.mk ((by rw [hg]; exact (below_size (by repeat (first | (with_reducible first | exact HB.out | apply below_alloc | apply pw_below_drewN | apply below_drew1) | exact HB.out))) : w.heap.size ≤ gb193)); clear HB; have HB := n0_; have BK193 := n1_; have GW193 := n2_; have GE193 := n3_; clear n0_ n1_ n2_ n3_; clear hb hbox hg) | ((with_reducible refine gate_dst (N := 3) rfl ?_); refine box_event ?hg (N := 3) ?hd (cs := #[.slice A1_0 l1_0.length c1_0, .int .i64 a1_1, .int .u64 a1_2, .int .u64 a1_3, .int .u64 a1_4, .int .u64 a1_5, .bool a1_6]) (t := 29) ?hr ?_; (case hd => rfl); (case hg => rfl); (case hr => first | (go_simp; done) | (go_simp; rfl)); intro gb194 hg w24 hbox hb; have n0_ := stats_Same.keepB BK193 hb; have n1_ := Aside0.mk (below_step (by repeat (first | (with_reducible first | exact HB.out | apply below_alloc | apply pw_below_drewN | apply below_drew1 | refine below_set ?_ GE193.out) | exact HB.out)) hb); have n2_ := Aside0.mk (hbox); have n3_ := Aside0.mk ((by rw [hg]; exact (below_size (by repeat (first | (with_reducible first | exact HB.out | apply below_alloc | apply pw_below_drewN | apply below_drew1 | refine below_set ?_ GE193.out) | exact HB.out))) : w.heap.size ≤ gb194)); have n4_ := Aside0.mk ((by rw [hg]; exact (below_size (by repeat (first | (with_reducible first | exact HB.out | apply below_alloc | apply pw_below_drewN | apply below_drew1 | refine below_set ?_ GE193.out) | exact HB.out))) : w.heap.size ≤ gb194)); have n5_ := stats_Same.neL BK193 hg; have n6_ := stats_Same.neG BK193 hg; clear BK193; clear HB; have BK193 := n0_; have HB := n1_; have BK194 := n2_; have GW194 := n3_; have GE194 := n4_; have NB193_194 := n5_; have NB194_193 := n6_; clear n0_ n1_ n2_ n3_ n4_ n5_ n6_; clear hb hbox hg; have hnb25 := NB193_194.out; have hnc25 := NB194_193.out; have hcz26_0 : w24.cell? ⟨gb193, 0, none⟩ = some (.slice A0_0 l0_0.length c0_0) := (blk_cell BK193.out 0).trans rfl; have hcz26_1 : w24.cell? ⟨gb193, 1, none⟩ = some (.int .i64 a0_1) := (blk_cell BK193.out 1).trans rfl; have hcz26_2 : w24.cell? ⟨gb193, 2, none⟩ = some (.int .u64 a0_2) := (blk_cell BK193.out 2).trans rfl; have hcz26_3 : w24.cell? ⟨gb193, 3, none⟩ = some (.int .u64 a0_3) := (blk_cell BK193.out 3).trans rfl; have hcz26_4 : w24.cell? ⟨gb193, 4, none⟩ = some (.int .u64 a0_4) := (blk_cell BK193.out 4).trans rfl; have hcz26_5 : w24.cell? ⟨gb193, 5, none⟩ = some (.int .u64 a0_5) := (blk_cell BK193.out 5).trans rfl; have hcz26_6 : w24.cell? ⟨gb193, 6, none⟩ = some (.bool a0_6) := (blk_cell BK193.out 6).trans rfl; have hfz26_0 := blk_frozen BK193.out 0; have hfz26_1 := blk_frozen BK193.out 1; have hfz26_2 := blk_frozen BK193.out 2; have hfz26_3 := blk_frozen BK193.out 3; have hfz26_4 := blk_frozen BK193.out 4; have hfz26_5 := blk_frozen BK193.out 5; have hfz26_6 := blk_frozen BK193.out 6; have hcz27_0 : w24.cell? ⟨gb194, 0, none⟩ = some (.slice A1_0 l1_0.length c1_0) := (blk_cell BK194.out 0).trans rfl; have hcz27_1 : w24.cell? ⟨gb194, 1, none⟩ = some (.int .i64 a1_1) := (blk_cell BK194.out 1).trans rfl; have hcz27_2 : w24.cell? ⟨gb194, 2, none⟩ = some (.int .u64 a1_2) := (blk_cell BK194.out 2).trans rfl; have hcz27_3 : w24.cell? ⟨gb194, 3, none⟩ = some (.int .u64 a1_3) := (blk_cell BK194.out 3).trans rfl; have hcz27_4 : w24.cell? ⟨gb194, 4, none⟩ = some (.int .u64 a1_4) := (blk_cell BK194.out 4).trans rfl; have hcz27_5 : w24.cell? ⟨gb194, 5, none⟩ = some (.int .u64 a1_5) := (blk_cell BK194.out 5).trans rfl; have hcz27_6 : w24.cell? ⟨gb194, 6, none⟩ = some (.bool a1_6) := (blk_cell BK194.out 6).trans rfl; have hfz27_0 := blk_frozen BK194.out 0; have hfz27_1 := blk_frozen BK194.out 1; have hfz27_2 := blk_frozen BK194.out 2; have hfz27_3 := blk_frozen BK194.out 3; have hfz27_4 := blk_frozen BK194.out 4; have hfz27_5 := blk_frozen BK194.out 5; have hfz27_6 := blk_frozen BK194.out 6) | ((with_reducible refine gate_callee (f := 40) rfl ?_); refine goesL_ (some 9) rfl rfl Try.func40 (by kernel_rfl) rfl #[.slice A0_0 l0_0.length c0_0, .slice A1_0 l1_0.length c1_0] rfl (by (try simp only [List.map_toArray, List.map_cons, List.map_nil]); first | done | rfl | (simp only [List.length_drop, List.length_take]; rfl)) ?_; (with_reducible refine (slices_Equal_int_int.calls k _ _ l0_0 _ _ l1_0 true _ ?side1 ?side2 ?side3 ?side4 A3.out).mono ?_); (case side1 => repeat (first | exact (Kd.C_below HR0_0.out HB.out) | (with_reducible refine Kd.C_alloc ?_ _) | (with_reducible refine Kd.C_drewN ?_ _) | (with_reducible refine Kd.C_drew ?_))); (case side2 => exact HC0_0.out); (case side3 => repeat (first | exact (Kd.C_below HR1_0.out HB.out) | (with_reducible refine Kd.C_alloc ?_ _) | (with_reducible refine Kd.C_drewN ?_ _) | (with_reducible refine Kd.C_drew ?_))); (case side4 => exact HC1_0.out); rintro e w' ⟨rfl, ⟨nd, rfl⟩⟩; refine ⟨_, rfl, ?_⟩))
      go_ret
      exact ⟨by first | rfl | (simp [errW_none, errW_some] <;> rfl) | (simp [*, errW_none, errW_some] <;> rfl), by repeat (first | (with_reducible first | exact HB.out | apply below_alloc | apply pw_below_drewN | apply below_drew1 | refine below_set ?_ GE193.out | refine below_set ?_ GE194.out) | exact HB.out)⟩
  · replace c4 := Bool.eq_false_iff.mpr c4
    subst c4
    have H1 : (some false) = some r := by rw [if_neg (show ¬ (false = true) by decide)] at H; exact H
    clear H
    have H := H1
    clear H1
    obtain rfl := Option.some.inj H
    go_enter Try.func17, Try.ntmps17
    go_wp2_with (first | ((with_reducible refine gate_dst (N := 2) rfl ?_); refine box_event ?hg (N := 2) ?hd (cs := #[.slice A0_0 l0_0.length c0_0, .int .i64 a0_1, .int .u64 a0_2, .int .u64 a0_3, .int .u64 a0_4, .int .u64 a0_5, .bool a0_6]) (t := 29) ?hr ?_; (case hd => rfl); (case hg => rfl); (case hr => first | (go_simp; done) | (go_simp; rfl)); intro gb193 hg w28 hbox hb; have n0_ := Aside0.mk (below_step (by repeat (first | (with_reducible first | exact HB.out | apply below_alloc | apply pw_below_drewN | apply below_drew1) | exact HB.out)) hb); have n1_ := Aside0.mk (hbox); have n2_ := Aside0.mk ((by rw [hg]; exact (below_size (by repeat (first | (with_reducible first | exact HB.out | apply below_alloc | apply pw_below_drewN | apply below_drew1) | exact HB.out))) : w.heap.size ≤ gb193)); have n3_ := Aside0.mk ((by rw [hg]; exact (below_size (by repeat (first | (with_reducible first | exact HB.out | apply below_alloc | apply pw_below_drewN | apply below_drew1) | exact HB.out))) : w.heap.size ≤ gb193)); clear HB; have HB := n0_; have BK193 := n1_; have GW193 := n2_; have GE193 := n3_; clear n0_ n1_ n2_ n3_; clear hb hbox hg) | ((with_reducible refine gate_dst (N := 3) rfl ?_); refine box_event ?hg (N := 3) ?hd (cs := #[.slice A1_0 l1_0.length c1_0, .int .i64 a1_1, .int .u64 a1_2, .int .u64 a1_3, .int .u64 a1_4, .int .u64 a1_5, .bool a1_6]) (t := 29) ?hr ?_; (case hd => rfl); (case hg => rfl); (case hr => first | (go_simp; done) | (go_simp; rfl)); intro gb194 hg w29 hbox hb; have n0_ := stats_Same.keepB BK193 hb; have n1_ := Aside0.mk (below_step (by repeat (first | (with_reducible first | exact HB.out | apply below_alloc | apply pw_below_drewN | apply below_drew1 | refine below_set ?_ GE193.out) | exact HB.out)) hb); have n2_ := Aside0.mk (hbox); have n3_ := Aside0.mk ((by rw [hg]; exact (below_size (by repeat (first | (with_reducible first | exact HB.out | apply below_alloc | apply pw_below_drewN | apply below_drew1 | refine below_set ?_ GE193.out) | exact HB.out))) : w.heap.size ≤ gb194)); have n4_ := Aside0.mk ((by rw [hg]; exact (below_size (by repeat (first | (with_reducible first | exact HB.out | apply below_alloc | apply pw_below_drewN | apply below_drew1 | refine below_set ?_ GE193.out) | exact HB.out))) : w.heap.size ≤ gb194)); have n5_ := stats_Same.neL BK193 hg; have n6_ := stats_Same.neG BK193 hg; clear BK193; clear HB; have BK193 := n0_; have HB := n1_; have BK194 := n2_; have GW194 := n3_; have GE194 := n4_; have NB193_194 := n5_; have NB194_193 := n6_; clear n0_ n1_ n2_ n3_ n4_ n5_ n6_; clear hb hbox hg; have hnb30 := NB193_194.out; have hnc30 := NB194_193.out; have hcz31_0 : w29.cell? ⟨gb193, 0, none⟩ = some (.slice A0_0 l0_0.length c0_0) := (blk_cell BK193.out 0).trans rfl; have hcz31_1 : w29.cell? ⟨gb193, 1, none⟩ = some (.int .i64 a0_1) := (blk_cell BK193.out 1).trans rfl; have hcz31_2 : w29.cell? ⟨gb193, 2, none⟩ = some (.int .u64 a0_2) := (blk_cell BK193.out 2).trans rfl; have hcz31_3 : w29.cell? ⟨gb193, 3, none⟩ = some (.int .u64 a0_3) := (blk_cell BK193.out 3).trans rfl; have hcz31_4 : w29.cell? ⟨gb193, 4, none⟩ = some (.int .u64 a0_4) := (blk_cell BK193.out 4).trans rfl; have hcz31_5 : w29.cell? ⟨gb193, 5, none⟩ = some (.int .u64 a0_5) := (blk_cell BK193.out 5).trans rfl; have hcz31_6 : w29.cell? ⟨gb193, 6, none⟩ = some (.bool a0_6) := (blk_cell BK193.out 6).trans rfl; have hfz31_0 := blk_frozen BK193.out 0; have hfz31_1 := blk_frozen BK193.out 1; have hfz31_2 := blk_frozen BK193.out 2; have hfz31_3 := blk_frozen BK193.out 3; have hfz31_4 := blk_frozen BK193.out 4; have hfz31_5 := blk_frozen BK193.out 5; have hfz31_6 := blk_frozen BK193.out 6; have hcz32_0 : w29.cell? ⟨gb194, 0, none⟩ = some (.slice A1_0 l1_0.length c1_0) := (blk_cell BK194.out 0).trans rfl; have hcz32_1 : w29.cell? ⟨gb194, 1, none⟩ = some (.int .i64 a1_1) := (blk_cell BK194.out 1).trans rfl; have hcz32_2 : w29.cell? ⟨gb194, 2, none⟩ = some (.int .u64 a1_2) := (blk_cell BK194.out 2).trans rfl; have hcz32_3 : w29.cell? ⟨gb194, 3, none⟩ = some (.int .u64 a1_3) := (blk_cell BK194.out 3).trans rfl; have hcz32_4 : w29.cell? ⟨gb194, 4, none⟩ = some (.int .u64 a1_4) := (blk_cell BK194.out 4).trans rfl; have hcz32_5 : w29.cell? ⟨gb194, 5, none⟩ = some (.int .u64 a1_5) := (blk_cell BK194.out 5).trans rfl; have hcz32_6 : w29.cell? ⟨gb194, 6, none⟩ = some (.bool a1_6) := (blk_cell BK194.out 6).trans rfl; have hfz32_0 := blk_frozen BK194.out 0; have hfz32_1 := blk_frozen BK194.out 1; have hfz32_2 := blk_frozen BK194.out 2; have hfz32_3 := blk_frozen BK194.out 3; have hfz32_4 := blk_frozen BK194.out 4; have hfz32_5 := blk_frozen BK194.out 5; have hfz32_6 := blk_frozen BK194.out 6) | ((with_reducible refine gate_callee (f := 40) rfl ?_); refine goesL_ (some 9) rfl rfl Try.func40 (by kernel_rfl) rfl #[.slice A0_0 l0_0.length c0_0, .slice A1_0 l1_0.length c1_0] rfl (by (try simp only [List.map_toArray, List.map_cons, List.map_nil]); first | done | rfl | (simp only [List.length_drop, List.length_take]; rfl)) ?_; (with_reducible refine (slices_Equal_int_int.calls k _ _ l0_0 _ _ l1_0 false _ ?side1 ?side2 ?side3 ?side4 A3.out).mono ?_); (case side1 => repeat (first | exact (Kd.C_below HR0_0.out HB.out) | (with_reducible refine Kd.C_alloc ?_ _) | (with_reducible refine Kd.C_drewN ?_ _) | (with_reducible refine Kd.C_drew ?_))); (case side2 => exact HC0_0.out); (case side3 => repeat (first | exact (Kd.C_below HR1_0.out HB.out) | (with_reducible refine Kd.C_alloc ?_ _) | (with_reducible refine Kd.C_drewN ?_ _) | (with_reducible refine Kd.C_drew ?_))); (case side4 => exact HC1_0.out); rintro e w' ⟨rfl, ⟨nd, rfl⟩⟩; refine ⟨_, rfl, ?_⟩))
    go_ret
    exact ⟨by first | rfl | (simp [errW_none, errW_some] <;> rfl) | (simp [*, errW_none, errW_some] <;> rfl), by repeat (first | (with_reducible first | exact HB.out | apply below_alloc | apply pw_below_drewN | apply below_drew1 | refine below_set ?_ GE193.out | refine below_set ?_ GE194.out) | exact HB.out)⟩

theorem offertorylaw13_awake.keepB {W0 W w1 : World} {g : Nat} {o : Obj} (h : Aside0 (W0.heap[g]? = some o)) (hb : Below W.heap.size W w1) (hs : W0.heap[g]? = some o → W.heap[g]? = some o := by intro h_; (with_reducible repeat (first | refine blk_drewN ?_ _ | refine blk_drew ?_ | refine blk_alloc ?_ _)); exact h_) : Aside0 (w1.heap[g]? = some o) := ⟨(hb.block g (blk_lt (hs h.out))).trans (hs h.out)⟩
theorem offertorylaw13_awake.neL {W0 W : World} {g gb : Nat} {o : Obj} (h : Aside0 (W0.heap[g]? = some o)) (hg : gb = W.heap.size) (hs : W0.heap[g]? = some o → W.heap[g]? = some o := by intro h_; (with_reducible repeat (first | refine blk_drewN ?_ _ | refine blk_drew ?_ | refine blk_alloc ?_ _)); exact h_) : Aside0 (g ≠ gb) := ⟨by rw [hg]; exact Nat.ne_of_lt (blk_lt (hs h.out))⟩
theorem offertorylaw13_awake.neG {W0 W : World} {g gb : Nat} {o : Obj} (h : Aside0 (W0.heap[g]? = some o)) (hg : gb = W.heap.size) (hs : W0.heap[g]? = some o → W.heap[g]? = some o := by intro h_; (with_reducible repeat (first | refine blk_drewN ?_ _ | refine blk_drew ?_ | refine blk_alloc ?_ _)); exact h_) : Aside0 (gb ≠ g) := ⟨by rw [hg]; exact Nat.ne_of_gt (blk_lt (hs h.out))⟩
/-! ### offertorylaw13_awake: function 10 -/
def offertorylaw13_awake.f (k : Nat)  : Option (Bool) := (some (([0] : List Int) : List Int)).bind fun y196 => ((stats_Of.f k (-3) 4 9 y196 (([(-3), (-2), 9] : List Int))).bind fun bt203 => ((stats_Decode.f k (-3) 4 9 y196 (([2, 1, 3, 2, 1, 1, 2, 0, 0, 1, 1, 1] : List Int))).bind fun bt217 => (if bt203.2.2.2.2.2.2.2 = 0 then (if bt217.2.2.2.2.2.2.2 = 0 then (if bt203.2.1 = 3 then (if bt203.2.2.2.2.2.2.1 = true then (if bt203.2.2.2.1 = 1 then (if bt203.2.2.2.2.2.1 = 29 then (if (bt203.1.length : Int) = 2 then (if 0 < (bt203.1.length : Int) then (if (rd bt203.1 0) = 2 then (if bt217.2.1 = 3 then ((stats_Same.f k bt203.1 bt203.2.1 bt203.2.2.1 bt203.2.2.2.1 bt203.2.2.2.2.1 bt203.2.2.2.2.2.1 bt203.2.2.2.2.2.2.1 bt203.1 bt203.2.1 bt203.2.2.1 bt203.2.2.2.1 bt203.2.2.2.2.1 bt203.2.2.2.2.2.1 bt203.2.2.2.2.2.2.1).bind fun t229 => (some t229)) else (none)) else (none)) else (none)) else (none)) else (none)) else (none)) else (none)) else (none)) else (none)) else (none))))
theorem offertorylaw13_awake.mono : ∀ k, LeO (offertorylaw13_awake.f k ) (offertorylaw13_awake.f (k + 1) ) := by
  intro  k
  unfold offertorylaw13_awake.f
  repeat' first
      | (with_reducible exact stats_Decode.mono _ _ _ _ _ _)
      | (with_reducible exact stats_Of.mono _ _ _ _ _ _)
      | (with_reducible exact stats_Same.mono _ _ _ _ _ _ _ _ _ _ _ _ _ _ _)
      | (with_reducible exact LeO.refl _)
      | (with_reducible exact LeO.none _)
      | (with_reducible refine LeO.ite ?_ ?_)
      | (with_reducible refine LeO.bind ?_ (fun _ => ?_))
      | exact stats_Decode.mono _ _ _ _ _ _
      | exact stats_Of.mono _ _ _ _ _ _
      | exact stats_Same.mono _ _ _ _ _ _ _ _ _ _ _ _ _ _ _
      | exact LeO.none _
      | refine LeO.ite ?_ ?_
      | refine LeO.bind ?_ (fun _ => ?_)
set_option maxHeartbeats 8000000 in
set_option maxRecDepth 100000 in
theorem offertorylaw13_awake.calls (k : Nat)  (r : Bool) (w : World) (h : offertorylaw13_awake.f k  = some r) :
    Calls Try.prog 10 #[] w fun e w' => e = .returned (.bool r) ∧ Below w.heap.size w w' := by
  have hu24 := Try.underlying24
  have hu29 := Try.underlying29
  have HB := Aside0.mk (Below.refl w.heap.size w)
  have H : ((some (([0] : List Int) : List Int)).bind fun y196 => ((stats_Of.f k (-3) 4 9 y196 (([(-3), (-2), 9] : List Int))).bind fun bt203 => ((stats_Decode.f k (-3) 4 9 y196 (([2, 1, 3, 2, 1, 1, 2, 0, 0, 1, 1, 1] : List Int))).bind fun bt217 => (if bt203.2.2.2.2.2.2.2 = 0 then (if bt217.2.2.2.2.2.2.2 = 0 then (if bt203.2.1 = 3 then (if bt203.2.2.2.2.2.2.1 = true then (if bt203.2.2.2.1 = 1 then (if bt203.2.2.2.2.2.1 = 29 then (if (bt203.1.length : Int) = 2 then (if 0 < (bt203.1.length : Int) then (if (rd bt203.1 0) = 2 then (if bt217.2.1 = 3 then ((stats_Same.f k bt203.1 bt203.2.1 bt203.2.2.1 bt203.2.2.2.1 bt203.2.2.2.2.1 bt203.2.2.2.2.2.1 bt203.2.2.2.2.2.2.1 bt203.1 bt203.2.1 bt203.2.2.1 bt203.2.2.2.1 bt203.2.2.2.2.1 bt203.2.2.2.2.2.1 bt203.2.2.2.2.2.2.1).bind fun t229 => (some t229)) else (none)) else (none)) else (none)) else (none)) else (none)) else (none)) else (none)) else (none)) else (none)) else (none))))) = some r := h
  clear h
  obtain ⟨y196, hy196⟩ : ∃ y_ : List Int, y_ = (([0] : List Int)) := ⟨_, rfl⟩
  replace H : ((stats_Of.f k (-3) 4 9 y196 (([(-3), (-2), 9] : List Int))).bind fun bt203 => ((stats_Decode.f k (-3) 4 9 y196 (([2, 1, 3, 2, 1, 1, 2, 0, 0, 1, 1, 1] : List Int))).bind fun bt217 => (if bt203.2.2.2.2.2.2.2 = 0 then (if bt217.2.2.2.2.2.2.2 = 0 then (if bt203.2.1 = 3 then (if bt203.2.2.2.2.2.2.1 = true then (if bt203.2.2.2.1 = 1 then (if bt203.2.2.2.2.2.1 = 29 then (if (bt203.1.length : Int) = 2 then (if 0 < (bt203.1.length : Int) then (if (rd bt203.1 0) = 2 then (if bt217.2.1 = 3 then ((stats_Same.f k bt203.1 bt203.2.1 bt203.2.2.1 bt203.2.2.2.1 bt203.2.2.2.2.1 bt203.2.2.2.2.2.1 bt203.2.2.2.2.2.2.1 bt203.1 bt203.2.1 bt203.2.2.1 bt203.2.2.2.1 bt203.2.2.2.2.1 bt203.2.2.2.2.2.1 bt203.2.2.2.2.2.2.1).bind fun t229 => (some t229)) else (none)) else (none)) else (none)) else (none)) else (none)) else (none)) else (none)) else (none)) else (none)) else (none)))) = some r := by first | (rw [hy196]; with_reducible exact H) | (have H2_ := (Option.bind_some _ _).symm.trans H; rw [hy196]; with_reducible exact H2_) | (have H2_ := (Option.bind_some _ _).symm.trans H; with_reducible exact H2_) | with_reducible exact H | (rw [hy196]; exact H) | exact H
  have Ny196 := Aside0.mk hy196
  clear hy196
  obtain ⟨y200, hy200⟩ : ∃ y_ : List Int, y_ = (([(-3), (-2), 9] : List Int)) := ⟨_, rfl⟩
  replace H : ((stats_Of.f k (-3) 4 9 y196 y200).bind fun bt203 => ((stats_Decode.f k (-3) 4 9 y196 (([2, 1, 3, 2, 1, 1, 2, 0, 0, 1, 1, 1] : List Int))).bind fun bt217 => (if bt203.2.2.2.2.2.2.2 = 0 then (if bt217.2.2.2.2.2.2.2 = 0 then (if bt203.2.1 = 3 then (if bt203.2.2.2.2.2.2.1 = true then (if bt203.2.2.2.1 = 1 then (if bt203.2.2.2.2.2.1 = 29 then (if (bt203.1.length : Int) = 2 then (if 0 < (bt203.1.length : Int) then (if (rd bt203.1 0) = 2 then (if bt217.2.1 = 3 then ((stats_Same.f k bt203.1 bt203.2.1 bt203.2.2.1 bt203.2.2.2.1 bt203.2.2.2.2.1 bt203.2.2.2.2.2.1 bt203.2.2.2.2.2.2.1 bt203.1 bt203.2.1 bt203.2.2.1 bt203.2.2.2.1 bt203.2.2.2.2.1 bt203.2.2.2.2.2.1 bt203.2.2.2.2.2.2.1).bind fun t229 => (some t229)) else (none)) else (none)) else (none)) else (none)) else (none)) else (none)) else (none)) else (none)) else (none)) else (none)))) = some r := by first | (rw [hy200]; with_reducible exact H) | (have H2_ := (Option.bind_some _ _).symm.trans H; rw [hy200]; with_reducible exact H2_) | (have H2_ := (Option.bind_some _ _).symm.trans H; with_reducible exact H2_) | with_reducible exact H | (rw [hy200]; exact H) | exact H
  have Ny200 := Aside0.mk hy200
  clear hy200
  replace H := Option.bind_eq_some_iff.mp H
  obtain ⟨⟨t203, t206, t207, t208, t209, t210, t211, t212⟩, A10, H⟩ := H
  replace H : ((stats_Decode.f k (-3) 4 9 y196 (([2, 1, 3, 2, 1, 1, 2, 0, 0, 1, 1, 1] : List Int))).bind fun bt217 => (if t212 = 0 then (if bt217.2.2.2.2.2.2.2 = 0 then (if t206 = 3 then (if t211 = true then (if t208 = 1 then (if t210 = 29 then (if (t203.length : Int) = 2 then (if 0 < (t203.length : Int) then (if (rd t203 0) = 2 then (if bt217.2.1 = 3 then ((stats_Same.f k t203 t206 t207 t208 t209 t210 t211 t203 t206 t207 t208 t209 t210 t211).bind fun t229 => (some t229)) else (none)) else (none)) else (none)) else (none)) else (none)) else (none)) else (none)) else (none)) else (none)) else (none))) = some r := H
  have A1 := Aside0.mk A10
  clear A10
  obtain ⟨y214, hy214⟩ : ∃ y_ : List Int, y_ = (([2, 1, 3, 2, 1, 1, 2, 0, 0, 1, 1, 1] : List Int)) := ⟨_, rfl⟩
  replace H : ((stats_Decode.f k (-3) 4 9 y196 y214).bind fun bt217 => (if t212 = 0 then (if bt217.2.2.2.2.2.2.2 = 0 then (if t206 = 3 then (if t211 = true then (if t208 = 1 then (if t210 = 29 then (if (t203.length : Int) = 2 then (if 0 < (t203.length : Int) then (if (rd t203 0) = 2 then (if bt217.2.1 = 3 then ((stats_Same.f k t203 t206 t207 t208 t209 t210 t211 t203 t206 t207 t208 t209 t210 t211).bind fun t229 => (some t229)) else (none)) else (none)) else (none)) else (none)) else (none)) else (none)) else (none)) else (none)) else (none)) else (none))) = some r := by first | (rw [hy214]; with_reducible exact H) | (have H2_ := (Option.bind_some _ _).symm.trans H; rw [hy214]; with_reducible exact H2_) | (have H2_ := (Option.bind_some _ _).symm.trans H; with_reducible exact H2_) | with_reducible exact H | (rw [hy214]; exact H) | exact H
  have Ny214 := Aside0.mk hy214
  clear hy214
  replace H := Option.bind_eq_some_iff.mp H
  obtain ⟨⟨t217, t220, t221, t222, t223, t224, t225, t226⟩, A20, H⟩ := H
  replace H : (if t212 = 0 then (if t226 = 0 then (if t206 = 3 then (if t211 = true then (if t208 = 1 then (if t210 = 29 then (if (t203.length : Int) = 2 then (if 0 < (t203.length : Int) then (if (rd t203 0) = 2 then (if t220 = 3 then ((stats_Same.f k t203 t206 t207 t208 t209 t210 t211 t203 t206 t207 t208 t209 t210 t211).bind fun t229 => (some t229)) else (none)) else (none)) else (none)) else (none)) else (none)) else (none)) else (none)) else (none)) else (none)) else (none)) = some r := H
  have A2 := Aside0.mk A20
  clear A20
  by_cases c3 : t212 = 0
  · rw [if_pos c3] at H
    have c3b0 : (t212 == 0) = true := beq_iff_eq.mpr c3
    have c3b1 : (t212 != 0) = false := bne_eq_false_iff_eq.mpr c3
    clear c3
    by_cases c4 : t226 = 0
    · rw [if_pos c4] at H
      have c4b0 : (t226 == 0) = true := beq_iff_eq.mpr c4
      have c4b1 : (t226 != 0) = false := bne_eq_false_iff_eq.mpr c4
      clear c4
      by_cases c5 : t206 = 3
      · rw [if_pos c5] at H
        have c5b0 : (t206 == 3) = true := beq_iff_eq.mpr c5
        have c5b1 : (t206 != 3) = false := bne_eq_false_iff_eq.mpr c5
        clear c5
        by_cases c6 : t211 = true
        · subst c6
          have H1 : (if t208 = 1 then (if t210 = 29 then (if (t203.length : Int) = 2 then (if 0 < (t203.length : Int) then (if (rd t203 0) = 2 then (if t220 = 3 then ((stats_Same.f k t203 t206 t207 t208 t209 t210 true t203 t206 t207 t208 t209 t210 true).bind fun t229 => (some t229)) else (none)) else (none)) else (none)) else (none)) else (none)) else (none)) = some r := by rw [if_pos rfl] at H; exact H
          clear H
          have H := H1
          clear H1
          by_cases c7 : t208 = 1
          · rw [if_pos c7] at H
            have c7b0 : (t208 == 1) = true := beq_iff_eq.mpr c7
            have c7b1 : (t208 != 1) = false := bne_eq_false_iff_eq.mpr c7
            clear c7
            by_cases c8 : t210 = 29
            · rw [if_pos c8] at H
              have c8b0 : (t210 == 29) = true := beq_iff_eq.mpr c8
              have c8b1 : (t210 != 29) = false := bne_eq_false_iff_eq.mpr c8
              clear c8
              by_cases c9 : (t203.length : Int) = 2
              · rw [if_pos c9] at H
                have c9b0 : ((t203.length : Int) == 2) = true := beq_iff_eq.mpr c9
                have c9b1 : ((t203.length : Int) != 2) = false := bne_eq_false_iff_eq.mpr c9
                clear c9
                by_cases c10 : 0 < (t203.length : Int)
                · rw [if_pos c10] at H
                  have c10b0 : decide (0 < (t203.length : Int)) = true := decide_eq_true c10
                  have c10b1 : decide (0 < t203.length) = true := decide_eq_true (by omega)
                  clear c10
                  by_cases c11 : (rd t203 0) = 2
                  · rw [if_pos c11] at H
                    have c11b0 : ((rd t203 0) == 2) = true := beq_iff_eq.mpr c11
                    have c11b1 : ((rd t203 0) != 2) = false := bne_eq_false_iff_eq.mpr c11
                    clear c11
                    by_cases c12 : t220 = 3
                    · rw [if_pos c12] at H
                      have c12b0 : (t220 == 3) = true := beq_iff_eq.mpr c12
                      have c12b1 : (t220 != 3) = false := bne_eq_false_iff_eq.mpr c12
                      clear c12
                      replace H := Option.bind_eq_some_iff.mp H
                      obtain ⟨t229, A130, H⟩ := H
                      replace H : (some t229) = some r := H
                      have A13 := Aside0.mk A130
                      clear A130
                      obtain rfl := Option.some.inj H
                      go_enter Try.func10, Try.ntmps10
                      go_wp2_with (first | ((with_reducible refine gate_dst (N := 6) rfl ?_); (try (refine gate_guard (by rfl) ?_; dsimp only)); refine Kd.R_lit (Kd.int .i64) _ 3 ?hg (N := 6) ?hd (xs := ([0] : List Int)) (inner := [.int .i64 0]) (ok := fun _ => True) (okp := fun _ => True) ?hr ?hp (fun _ hk => hk) trivial (Below.refl _ _) (Nat.le_refl _) (by simp) ?_; (case hd => rfl); (case hg => rfl); (case hr => first | (go_simp; done) | (go_simp; rfl)); (case hp => exact (Reps.one (show Kd.M (Kd.int .i64) _ _ _ 0 [.int .i64 0] from rfl) (Reps.none _ _))); intro v197 w14 ho15 hb hg_ hnew_; clear hg_ hnew_; (first | rw [← Ny196.out] at ho15 | (simp only [Int.reduceToNat] at ho15; rw [← Ny196.out] at ho15)); have n0_ := Aside0.mk (Kd.R_lower ho15 (below_size (by repeat (first | (with_reducible first | exact HB.out | apply below_alloc | apply pw_below_drewN | apply below_drew1) | exact HB.out)))); have n1_ := Aside0.mk (below_step (by repeat (first | (with_reducible first | exact HB.out | apply below_alloc | apply pw_below_drewN | apply below_drew1) | exact HB.out)) hb); clear HB; have HO198 := n0_; have HB := n1_; clear n0_ n1_; clear hb ho15; obtain ⟨Ao16, co16, eo16⟩ := Kd.R_slice HO198.out; subst eo16) | ((with_reducible refine gate_dst (N := 1) rfl ?_); (try (refine gate_guard (by rfl) ?_; dsimp only)); refine box_event ?hg (N := 1) ?hd (cs := #[.int .i64 0, .int .i64 0, .int .i64 0, .slice none 0 0]) (t := 24) ?hr ?_; (case hd => rfl); (case hg => rfl); (case hr => first | (go_simp; done) | (go_simp; rfl)); intro gb199 hg w17 hbox hb; have n0_ := Aside0.mk (Kd.R_below (by (with_reducible repeat (first | apply Kd.R_alloc | apply Kd.R_drewN | apply Kd.R_drew)); exact HO198.out) hb); have n1_ := Aside0.mk (below_step (by repeat (first | (with_reducible first | exact HB.out | apply below_alloc | apply pw_below_drewN | apply below_drew1) | exact HB.out)) hb); have n2_ := Aside0.mk (hbox); have n3_ := Aside0.mk ((by rw [hg]; exact (below_size (by repeat (first | (with_reducible first | exact HB.out | apply below_alloc | apply pw_below_drewN | apply below_drew1) | exact HB.out))) : w.heap.size ≤ gb199)); have n4_ := Aside0.mk ((by rw [hg]; exact (below_size (by repeat (first | (with_reducible first | exact HB.out | apply below_alloc | apply pw_below_drewN | apply below_drew1) | exact HB.out))) : w.heap.size ≤ gb199)); clear HO198; clear HB; have HO198 := n0_; have HB := n1_; have BK199 := n2_; have GW199 := n3_; have GE199 := n4_; clear n0_ n1_ n2_ n3_ n4_; clear hb hbox hg; have hcz18_0 : w17.cell? ⟨gb199, 0, none⟩ = some (.int .i64 0) := (blk_cell BK199.out 0).trans rfl; have hcz18_1 : w17.cell? ⟨gb199, 1, none⟩ = some (.int .i64 0) := (blk_cell BK199.out 1).trans rfl; have hcz18_2 : w17.cell? ⟨gb199, 2, none⟩ = some (.int .i64 0) := (blk_cell BK199.out 2).trans rfl; have hcz18_3 : w17.cell? ⟨gb199, 3, none⟩ = some (.slice none 0 0) := (blk_cell BK199.out 3).trans rfl; have hfz18_0 := blk_frozen BK199.out 0; have hfz18_1 := blk_frozen BK199.out 1; have hfz18_2 := blk_frozen BK199.out 2; have hfz18_3 := blk_frozen BK199.out 3) | ((with_reducible refine gate_dst (N := 10) rfl ?_); (try (refine gate_guard (by rfl) ?_; dsimp only)); refine Kd.R_lit (Kd.int .i64) _ 3 ?hg (N := 10) ?hd (xs := ([(-3), (-2), 9] : List Int)) (inner := [.int .i64 (-3), .int .i64 (-2), .int .i64 9]) (ok := fun _ => True) (okp := fun _ => True) ?hr ?hp (fun _ hk => hk) trivial (Below.refl _ _) (Nat.le_refl _) (by simp) ?_; (case hd => rfl); (case hg => rfl); (case hr => first | (go_simp; done) | (go_simp; rfl)); (case hp => exact (Reps.one (show Kd.M (Kd.int .i64) _ _ _ (-3) [.int .i64 (-3)] from rfl) (Reps.one (show Kd.M (Kd.int .i64) _ _ _ (-2) [.int .i64 (-2)] from rfl) (Reps.one (show Kd.M (Kd.int .i64) _ _ _ 9 [.int .i64 9] from rfl) (Reps.none _ _))))); intro v201 w19 ho20 hb hg_ hnew_; clear hg_ hnew_; (first | rw [← Ny200.out] at ho20 | (simp only [Int.reduceToNat] at ho20; rw [← Ny200.out] at ho20)); have n0_ := Aside0.mk (Kd.R_elder' (by (with_reducible repeat (first | apply Kd.R_alloc | apply Kd.R_drewN | apply Kd.R_drew)); exact (Kd.R_mono (Kd.R_far (p := ⟨gb199, 3, none⟩) (Kd.R_far (p := ⟨gb199, 2, none⟩) (Kd.R_far (p := ⟨gb199, 1, none⟩) (Kd.R_far (p := ⟨gb199, 0, none⟩) (Kd.R_types HO198.out BK199.out (by decide)) (fun _ hk => hk.2) (.int .i64 (-3))) (fun _ hk => hk.2) (.int .i64 4)) (fun _ hk => hk.2) (.int .i64 9)) (fun _ hk => hk.2) (.slice Ao16 y196.length co16)) (fun _ h_ => h_.1))) (Kd.R_base ho20) hb); have n1_ := Aside0.mk (Kd.R_lower (Kd.R_new' ho20 (Kd.R_lt (by (with_reducible repeat (first | apply Kd.R_alloc | apply Kd.R_drewN | apply Kd.R_drew)); exact (Kd.R_mono (Kd.R_far (p := ⟨gb199, 3, none⟩) (Kd.R_far (p := ⟨gb199, 2, none⟩) (Kd.R_far (p := ⟨gb199, 1, none⟩) (Kd.R_far (p := ⟨gb199, 0, none⟩) (Kd.R_types HO198.out BK199.out (by decide)) (fun _ hk => hk.2) (.int .i64 (-3))) (fun _ hk => hk.2) (.int .i64 4)) (fun _ hk => hk.2) (.int .i64 9)) (fun _ hk => hk.2) (.slice Ao16 y196.length co16)) (fun _ h_ => h_.1))))) (below_size (by repeat (first | (with_reducible first | exact HB.out | apply below_alloc | apply pw_below_drewN | apply below_drew1 | refine below_set ?_ GE199.out) | exact HB.out)))); have n2_ := Aside0.mk (blk_below (g := gb199) (o := .cells #[.int .i64 (-3), .int .i64 4, .int .i64 9, .slice Ao16 y196.length co16] 24 (0, 0)) (by (with_reducible repeat (first | refine blk_drewN ?_ _ | refine blk_drew ?_ | refine blk_alloc ?_ _)); refine blk_put (cs := #[.int .i64 (-3), .int .i64 4, .int .i64 9, .slice none 0 0]) ?_ 3 _ rfl; (with_reducible repeat (first | refine blk_drewN ?_ _ | refine blk_drew ?_ | refine blk_alloc ?_ _)); refine blk_put (cs := #[.int .i64 (-3), .int .i64 4, .int .i64 0, .slice none 0 0]) ?_ 2 _ rfl; (with_reducible repeat (first | refine blk_drewN ?_ _ | refine blk_drew ?_ | refine blk_alloc ?_ _)); refine blk_put (cs := #[.int .i64 (-3), .int .i64 0, .int .i64 0, .slice none 0 0]) ?_ 1 _ rfl; (with_reducible repeat (first | refine blk_drewN ?_ _ | refine blk_drew ?_ | refine blk_alloc ?_ _)); refine blk_put (cs := #[.int .i64 0, .int .i64 0, .int .i64 0, .slice none 0 0]) ?_ 0 _ rfl; (with_reducible repeat (first | refine blk_drewN ?_ _ | refine blk_drew ?_ | refine blk_alloc ?_ _)); exact BK199.out) hb); have n3_ := Aside0.mk (below_step (by repeat (first | (with_reducible first | exact HB.out | apply below_alloc | apply pw_below_drewN | apply below_drew1 | refine below_set ?_ GE199.out) | exact HB.out)) hb); clear HO198; clear BK199; clear HB; have HO198 := n0_; have HO202 := n1_; have BK199 := n2_; have HB := n3_; clear n0_ n1_ n2_ n3_; clear hb ho20; obtain ⟨Ao21, co21, eo21⟩ := Kd.R_slice HO202.out; subst eo21) | ((with_reducible refine gate_callee (f := 8) rfl ?_); refine goesL_ (some 11) rfl rfl Try.func8 (by kernel_rfl) rfl #[.agg #[.int .i64 (-3), .int .i64 4, .int .i64 9, .slice Ao16 y196.length co16], .slice Ao21 y200.length co21] rfl (by (try simp only [List.map_toArray, List.map_cons, List.map_nil]); first | done | rfl | (simp only [List.length_drop, List.length_take]; rfl)) ?_; (with_reducible refine (stats_Of.calls k (-3) 4 9 _ _ y196 _ _ y200 t203 t206 t207 t208 t209 t210 true t212 _ ?side1 ?side2 ?side3 ?side4 A1.out).mono ?_); (case side1 => repeat (first | exact (Kd.R_reads' HO198.out).2.2 | (with_reducible refine Kd.C_alloc ?_ _) | (with_reducible refine Kd.C_drewN ?_ _) | (with_reducible refine Kd.C_drew ?_))); (case side2 => exact (Kd.R_reads' HO198.out).2.1); (case side3 => repeat (first | exact (Kd.R_reads' HO202.out).2.2 | (with_reducible refine Kd.C_alloc ?_ _) | (with_reducible refine Kd.C_drewN ?_ _) | (with_reducible refine Kd.C_drew ?_))); (case side4 => exact (Kd.R_reads' HO202.out).2.1); rintro e w22 ⟨v204, rfl, ho0, hb⟩; refine ⟨_, rfl, ?_⟩; have n0_ := Aside0.mk (Kd.R_elder' (by (with_reducible repeat (first | apply Kd.R_alloc | apply Kd.R_drewN | apply Kd.R_drew)); exact HO198.out) (Kd.R_base ho0) hb); have n1_ := Aside0.mk (Kd.R_elder' (by (with_reducible repeat (first | apply Kd.R_alloc | apply Kd.R_drewN | apply Kd.R_drew)); exact HO202.out) (Kd.R_base ho0) hb); have n2_ := Aside0.mk (Kd.R_lower (Kd.R_new' (Kd.R_new' ho0 (Kd.R_lt (by (with_reducible repeat (first | apply Kd.R_alloc | apply Kd.R_drewN | apply Kd.R_drew)); exact HO198.out))) (Kd.R_lt (by (with_reducible repeat (first | apply Kd.R_alloc | apply Kd.R_drewN | apply Kd.R_drew)); exact HO202.out))) (below_size (by repeat (first | (with_reducible first | exact HB.out | apply below_alloc | apply pw_below_drewN | apply below_drew1 | refine below_set ?_ GE199.out) | exact HB.out)))); have n3_ := offertorylaw13_awake.keepB BK199 hb; have n4_ := Aside0.mk (below_step (by repeat (first | (with_reducible first | exact HB.out | apply below_alloc | apply pw_below_drewN | apply below_drew1 | refine below_set ?_ GE199.out) | exact HB.out)) hb); clear HO198; clear HO202; clear BK199; clear HB; have HO198 := n0_; have HO202 := n1_; have HO205 := n2_; have BK199 := n3_; have HB := n4_; clear n0_ n1_ n2_ n3_ n4_; (try clear hb); (try clear hb2); (try clear hk); (try clear hi); (try clear ho0)) | ((with_reducible refine gate_dst (N := 2) rfl ?_); (try (refine gate_guard (by rfl) ?_; dsimp only)); refine box_event ?hg (N := 2) ?hd (cs := #[.slice none 0 0, .int .i64 0, .int .u64 0, .int .u64 0, .int .u64 0, .int .u64 0, .bool false]) (t := 29) ?hr ?_; (case hd => rfl); (case hg => rfl); (case hr => first | (go_simp; done) | (go_simp; rfl)); intro gb213 hg w23 hbox hb; have n0_ := Aside0.mk (Kd.R_below (by (with_reducible repeat (first | apply Kd.R_alloc | apply Kd.R_drewN | apply Kd.R_drew)); exact HO198.out) hb); have n1_ := Aside0.mk (Kd.R_below (by (with_reducible repeat (first | apply Kd.R_alloc | apply Kd.R_drewN | apply Kd.R_drew)); exact HO202.out) hb); have n2_ := Aside0.mk (Kd.R_below (by (with_reducible repeat (first | apply Kd.R_alloc | apply Kd.R_drewN | apply Kd.R_drew)); exact HO205.out) hb); have n3_ := offertorylaw13_awake.keepB BK199 hb; have n4_ := Aside0.mk (below_step (by repeat (first | (with_reducible first | exact HB.out | apply below_alloc | apply pw_below_drewN | apply below_drew1 | refine below_set ?_ GE199.out) | exact HB.out)) hb); have n5_ := Aside0.mk (hbox); have n6_ := Aside0.mk ((by rw [hg]; exact (below_size (by repeat (first | (with_reducible first | exact HB.out | apply below_alloc | apply pw_below_drewN | apply below_drew1 | refine below_set ?_ GE199.out) | exact HB.out))) : w.heap.size ≤ gb213)); have n7_ := Aside0.mk ((by rw [hg]; exact (below_size (by repeat (first | (with_reducible first | exact HB.out | apply below_alloc | apply pw_below_drewN | apply below_drew1 | refine below_set ?_ GE199.out) | exact HB.out))) : w.heap.size ≤ gb213)); have n8_ := offertorylaw13_awake.neL BK199 hg; have n9_ := offertorylaw13_awake.neG BK199 hg; clear HO198; clear HO202; clear HO205; clear BK199; clear HB; have HO198 := n0_; have HO202 := n1_; have HO205 := n2_; have BK199 := n3_; have HB := n4_; have BK213 := n5_; have GW213 := n6_; have GE213 := n7_; have NB199_213 := n8_; have NB213_199 := n9_; clear n0_ n1_ n2_ n3_ n4_ n5_ n6_ n7_ n8_ n9_; clear hb hbox hg; obtain ⟨Ao24, co24, eo24⟩ := Kd.R_slice HO205.out; subst eo24; have hnb25 := NB213_199.out; have hnc25 := NB199_213.out; have hcz26_0 : w23.cell? ⟨gb213, 0, none⟩ = some (.slice none 0 0) := (blk_cell BK213.out 0).trans rfl; have hcz26_1 : w23.cell? ⟨gb213, 1, none⟩ = some (.int .i64 0) := (blk_cell BK213.out 1).trans rfl; have hcz26_2 : w23.cell? ⟨gb213, 2, none⟩ = some (.int .u64 0) := (blk_cell BK213.out 2).trans rfl; have hcz26_3 : w23.cell? ⟨gb213, 3, none⟩ = some (.int .u64 0) := (blk_cell BK213.out 3).trans rfl; have hcz26_4 : w23.cell? ⟨gb213, 4, none⟩ = some (.int .u64 0) := (blk_cell BK213.out 4).trans rfl; have hcz26_5 : w23.cell? ⟨gb213, 5, none⟩ = some (.int .u64 0) := (blk_cell BK213.out 5).trans rfl; have hcz26_6 : w23.cell? ⟨gb213, 6, none⟩ = some (.bool false) := (blk_cell BK213.out 6).trans rfl; have hfz26_0 := blk_frozen BK213.out 0; have hfz26_1 := blk_frozen BK213.out 1; have hfz26_2 := blk_frozen BK213.out 2; have hfz26_3 := blk_frozen BK213.out 3; have hfz26_4 := blk_frozen BK213.out 4; have hfz26_5 := blk_frozen BK213.out 5; have hfz26_6 := blk_frozen BK213.out 6; have hcz27_0 : w23.cell? ⟨gb199, 0, none⟩ = some (.int .i64 (-3)) := (blk_cell BK199.out 0).trans rfl; have hcz27_1 : w23.cell? ⟨gb199, 1, none⟩ = some (.int .i64 4) := (blk_cell BK199.out 1).trans rfl; have hcz27_2 : w23.cell? ⟨gb199, 2, none⟩ = some (.int .i64 9) := (blk_cell BK199.out 2).trans rfl; have hcz27_3 : w23.cell? ⟨gb199, 3, none⟩ = some (.slice Ao16 y196.length co16) := (blk_cell BK199.out 3).trans rfl; have hfz27_0 := blk_frozen BK199.out 0; have hfz27_1 := blk_frozen BK199.out 1; have hfz27_2 := blk_frozen BK199.out 2; have hfz27_3 := blk_frozen BK199.out 3) | ((with_reducible refine gate_dst (N := 16) rfl ?_); (try (refine gate_guard (by rfl) ?_; dsimp only)); refine Kd.R_lit (Kd.int .u32) _ 43 ?hg (N := 16) ?hd (xs := ([2, 1, 3, 2, 1, 1, 2, 0, 0, 1, 1, 1] : List Int)) (inner := [.int .u32 2, .int .u32 1, .int .u32 3, .int .u32 2, .int .u32 1, .int .u32 1, .int .u32 2, .int .u32 0, .int .u32 0, .int .u32 1, .int .u32 1, .int .u32 1]) (ok := fun _ => True) (okp := fun _ => True) ?hr ?hp (fun _ hk => hk) trivial (Below.refl _ _) (Nat.le_refl _) (by simp) ?_; (case hd => rfl); (case hg => rfl); (case hr => first | (go_simp; done) | (go_simp; rfl)); (case hp => exact (Reps.one (show Kd.M (Kd.int .u32) _ _ _ 2 [.int .u32 2] from rfl) (Reps.one (show Kd.M (Kd.int .u32) _ _ _ 1 [.int .u32 1] from rfl) (Reps.one (show Kd.M (Kd.int .u32) _ _ _ 3 [.int .u32 3] from rfl) (Reps.one (show Kd.M (Kd.int .u32) _ _ _ 2 [.int .u32 2] from rfl) (Reps.one (show Kd.M (Kd.int .u32) _ _ _ 1 [.int .u32 1] from rfl) (Reps.one (show Kd.M (Kd.int .u32) _ _ _ 1 [.int .u32 1] from rfl) (Reps.one (show Kd.M (Kd.int .u32) _ _ _ 2 [.int .u32 2] from rfl) (Reps.one (show Kd.M (Kd.int .u32) _ _ _ 0 [.int .u32 0] from rfl) (Reps.one (show Kd.M (Kd.int .u32) _ _ _ 0 [.int .u32 0] from rfl) (Reps.one (show Kd.M (Kd.int .u32) _ _ _ 1 [.int .u32 1] from rfl) (Reps.one (show Kd.M (Kd.int .u32) _ _ _ 1 [.int .u32 1] from rfl) (Reps.one (show Kd.M (Kd.int .u32) _ _ _ 1 [.int .u32 1] from rfl) (Reps.none _ _)))))))))))))); intro v215 w28 ho29 hb hg_ hnew_; clear hg_ hnew_; (first | rw [← Ny214.out] at ho29 | (simp only [Int.reduceToNat] at ho29; rw [← Ny214.out] at ho29)); have n0_ := Aside0.mk (Kd.R_below (by (with_reducible repeat (first | apply Kd.R_alloc | apply Kd.R_drewN | apply Kd.R_drew)); exact (Kd.R_mono (Kd.R_far (p := ⟨gb213, 6, none⟩) (Kd.R_far (p := ⟨gb213, 5, none⟩) (Kd.R_far (p := ⟨gb213, 4, none⟩) (Kd.R_far (p := ⟨gb213, 3, none⟩) (Kd.R_far (p := ⟨gb213, 2, none⟩) (Kd.R_far (p := ⟨gb213, 1, none⟩) (Kd.R_far (p := ⟨gb213, 0, none⟩) (Kd.R_types HO198.out BK213.out (by decide)) (fun _ hk => hk.2) (.slice Ao24 t203.length co24)) (fun _ hk => hk.2) (.int .i64 t206)) (fun _ hk => hk.2) (.int .u64 t207)) (fun _ hk => hk.2) (.int .u64 t208)) (fun _ hk => hk.2) (.int .u64 t209)) (fun _ hk => hk.2) (.int .u64 t210)) (fun _ hk => hk.2) (.bool true)) (fun _ h_ => h_.1))) hb); have n1_ := Aside0.mk (Kd.R_below (by (with_reducible repeat (first | apply Kd.R_alloc | apply Kd.R_drewN | apply Kd.R_drew)); exact (Kd.R_mono (Kd.R_far (p := ⟨gb213, 6, none⟩) (Kd.R_far (p := ⟨gb213, 5, none⟩) (Kd.R_far (p := ⟨gb213, 4, none⟩) (Kd.R_far (p := ⟨gb213, 3, none⟩) (Kd.R_far (p := ⟨gb213, 2, none⟩) (Kd.R_far (p := ⟨gb213, 1, none⟩) (Kd.R_far (p := ⟨gb213, 0, none⟩) (Kd.R_types HO202.out BK213.out (by decide)) (fun _ hk => hk.2) (.slice Ao24 t203.length co24)) (fun _ hk => hk.2) (.int .i64 t206)) (fun _ hk => hk.2) (.int .u64 t207)) (fun _ hk => hk.2) (.int .u64 t208)) (fun _ hk => hk.2) (.int .u64 t209)) (fun _ hk => hk.2) (.int .u64 t210)) (fun _ hk => hk.2) (.bool true)) (fun _ h_ => h_.1))) hb); have n2_ := Aside0.mk (Kd.R_below (by (with_reducible repeat (first | apply Kd.R_alloc | apply Kd.R_drewN | apply Kd.R_drew)); exact (Kd.R_mono (Kd.R_far (p := ⟨gb213, 6, none⟩) (Kd.R_far (p := ⟨gb213, 5, none⟩) (Kd.R_far (p := ⟨gb213, 4, none⟩) (Kd.R_far (p := ⟨gb213, 3, none⟩) (Kd.R_far (p := ⟨gb213, 2, none⟩) (Kd.R_far (p := ⟨gb213, 1, none⟩) (Kd.R_far (p := ⟨gb213, 0, none⟩) (Kd.R_types HO205.out BK213.out (by decide)) (fun _ hk => hk.2) (.slice Ao24 t203.length co24)) (fun _ hk => hk.2) (.int .i64 t206)) (fun _ hk => hk.2) (.int .u64 t207)) (fun _ hk => hk.2) (.int .u64 t208)) (fun _ hk => hk.2) (.int .u64 t209)) (fun _ hk => hk.2) (.int .u64 t210)) (fun _ hk => hk.2) (.bool true)) (fun _ h_ => h_.1))) hb); have n3_ := Aside0.mk (Kd.R_lower ho29 (below_size (by repeat (first | (with_reducible first | exact HB.out | apply below_alloc | apply pw_below_drewN | apply below_drew1 | refine below_set ?_ GE199.out | refine below_set ?_ GE213.out) | exact HB.out)))); have n4_ := Aside0.mk (blk_below (g := gb199) (o := .cells #[.int .i64 (-3), .int .i64 4, .int .i64 9, .slice Ao16 y196.length co16] 24 (0, 0)) (by (repeat (first | (with_reducible first | refine blk_drewN ?_ _ | refine blk_drew ?_ | refine blk_alloc ?_ _) | refine blk_far ?_ NB199_213.out _)); (with_reducible repeat (first | refine blk_drewN ?_ _ | refine blk_drew ?_ | refine blk_alloc ?_ _)); exact BK199.out) hb); have n5_ := Aside0.mk (blk_below (g := gb213) (o := .cells #[.slice Ao24 t203.length co24, .int .i64 t206, .int .u64 t207, .int .u64 t208, .int .u64 t209, .int .u64 t210, .bool true] 29 (0, 0)) (by (with_reducible repeat (first | refine blk_drewN ?_ _ | refine blk_drew ?_ | refine blk_alloc ?_ _)); refine blk_put (cs := #[.slice Ao24 t203.length co24, .int .i64 t206, .int .u64 t207, .int .u64 t208, .int .u64 t209, .int .u64 t210, .bool false]) ?_ 6 _ rfl; (with_reducible repeat (first | refine blk_drewN ?_ _ | refine blk_drew ?_ | refine blk_alloc ?_ _)); refine blk_put (cs := #[.slice Ao24 t203.length co24, .int .i64 t206, .int .u64 t207, .int .u64 t208, .int .u64 t209, .int .u64 0, .bool false]) ?_ 5 _ rfl; (with_reducible repeat (first | refine blk_drewN ?_ _ | refine blk_drew ?_ | refine blk_alloc ?_ _)); refine blk_put (cs := #[.slice Ao24 t203.length co24, .int .i64 t206, .int .u64 t207, .int .u64 t208, .int .u64 0, .int .u64 0, .bool false]) ?_ 4 _ rfl; (with_reducible repeat (first | refine blk_drewN ?_ _ | refine blk_drew ?_ | refine blk_alloc ?_ _)); refine blk_put (cs := #[.slice Ao24 t203.length co24, .int .i64 t206, .int .u64 t207, .int .u64 0, .int .u64 0, .int .u64 0, .bool false]) ?_ 3 _ rfl; (with_reducible repeat (first | refine blk_drewN ?_ _ | refine blk_drew ?_ | refine blk_alloc ?_ _)); refine blk_put (cs := #[.slice Ao24 t203.length co24, .int .i64 t206, .int .u64 0, .int .u64 0, .int .u64 0, .int .u64 0, .bool false]) ?_ 2 _ rfl; (with_reducible repeat (first | refine blk_drewN ?_ _ | refine blk_drew ?_ | refine blk_alloc ?_ _)); refine blk_put (cs := #[.slice Ao24 t203.length co24, .int .i64 0, .int .u64 0, .int .u64 0, .int .u64 0, .int .u64 0, .bool false]) ?_ 1 _ rfl; (with_reducible repeat (first | refine blk_drewN ?_ _ | refine blk_drew ?_ | refine blk_alloc ?_ _)); refine blk_put (cs := #[.slice none 0 0, .int .i64 0, .int .u64 0, .int .u64 0, .int .u64 0, .int .u64 0, .bool false]) ?_ 0 _ rfl; (with_reducible repeat (first | refine blk_drewN ?_ _ | refine blk_drew ?_ | refine blk_alloc ?_ _)); exact BK213.out) hb); have n6_ := Aside0.mk (below_step (by repeat (first | (with_reducible first | exact HB.out | apply below_alloc | apply pw_below_drewN | apply below_drew1 | refine below_set ?_ GE199.out | refine below_set ?_ GE213.out) | exact HB.out)) hb); clear HO198; clear HO202; clear HO205; clear BK199; clear BK213; clear HB; have HO198 := n0_; have HO202 := n1_; have HO205 := n2_; have HO216 := n3_; have BK199 := n4_; have BK213 := n5_; have HB := n6_; clear n0_ n1_ n2_ n3_ n4_ n5_ n6_; clear hb ho29; obtain ⟨Ao30, co30, eo30⟩ := Kd.R_slice HO216.out; subst eo30) | ((with_reducible refine gate_callee (f := 13) rfl ?_); refine goesL_ (some 17) rfl rfl Try.func13 (by kernel_rfl) rfl #[.agg #[.int .i64 (-3), .int .i64 4, .int .i64 9, .slice Ao16 y196.length co16], .slice Ao30 y214.length co30] rfl (by (try simp only [List.map_toArray, List.map_cons, List.map_nil]); first | done | rfl | (simp only [List.length_drop, List.length_take]; rfl)) ?_; (with_reducible refine (stats_Decode.calls k (-3) 4 9 _ _ y196 _ _ y214 t217 t220 t221 t222 t223 t224 t225 t226 _ ?side1 ?side2 ?side3 ?side4 A2.out).mono ?_); (case side1 => repeat (first | exact (Kd.R_reads' HO198.out).2.2 | (with_reducible refine Kd.C_alloc ?_ _) | (with_reducible refine Kd.C_drewN ?_ _) | (with_reducible refine Kd.C_drew ?_))); (case side2 => exact (Kd.R_reads' HO198.out).2.1); (case side3 => repeat (first | exact (Kd.R_reads' HO216.out).2.2 | (with_reducible refine Kd.C_alloc ?_ _) | (with_reducible refine Kd.C_drewN ?_ _) | (with_reducible refine Kd.C_drew ?_))); (case side4 => exact (Kd.R_reads' HO216.out).2.1); rintro e w31 ⟨v218, rfl, ho0, hb⟩; refine ⟨_, rfl, ?_⟩; have n0_ := Aside0.mk (Kd.R_elder' (by (with_reducible repeat (first | apply Kd.R_alloc | apply Kd.R_drewN | apply Kd.R_drew)); exact HO198.out) (Kd.R_base ho0) hb); have n1_ := Aside0.mk (Kd.R_elder' (by (with_reducible repeat (first | apply Kd.R_alloc | apply Kd.R_drewN | apply Kd.R_drew)); exact HO202.out) (Kd.R_base ho0) hb); have n2_ := Aside0.mk (Kd.R_elder' (by (with_reducible repeat (first | apply Kd.R_alloc | apply Kd.R_drewN | apply Kd.R_drew)); exact HO205.out) (Kd.R_base ho0) hb); have n3_ := Aside0.mk (Kd.R_below (by (with_reducible repeat (first | apply Kd.R_alloc | apply Kd.R_drewN | apply Kd.R_drew)); exact HO216.out) hb); have n4_ := Aside0.mk (Kd.R_lower (Kd.R_new' (Kd.R_new' (Kd.R_new' ho0 (Kd.R_lt (by (with_reducible repeat (first | apply Kd.R_alloc | apply Kd.R_drewN | apply Kd.R_drew)); exact HO198.out))) (Kd.R_lt (by (with_reducible repeat (first | apply Kd.R_alloc | apply Kd.R_drewN | apply Kd.R_drew)); exact HO202.out))) (Kd.R_lt (by (with_reducible repeat (first | apply Kd.R_alloc | apply Kd.R_drewN | apply Kd.R_drew)); exact HO205.out))) (below_size (by repeat (first | (with_reducible first | exact HB.out | apply below_alloc | apply pw_below_drewN | apply below_drew1 | refine below_set ?_ GE199.out | refine below_set ?_ GE213.out) | exact HB.out)))); have n5_ := offertorylaw13_awake.keepB BK199 hb; have n6_ := offertorylaw13_awake.keepB BK213 hb; have n7_ := Aside0.mk (below_step (by repeat (first | (with_reducible first | exact HB.out | apply below_alloc | apply pw_below_drewN | apply below_drew1 | refine below_set ?_ GE199.out | refine below_set ?_ GE213.out) | exact HB.out)) hb); clear HO198; clear HO202; clear HO205; clear HO216; clear BK199; clear BK213; clear HB; have HO198 := n0_; have HO202 := n1_; have HO205 := n2_; have HO216 := n3_; have HO219 := n4_; have BK199 := n5_; have BK213 := n6_; have HB := n7_; clear n0_ n1_ n2_ n3_ n4_ n5_ n6_ n7_; (try clear hb); (try clear hb2); (try clear hk); (try clear hi); (try clear ho0)) | ((with_reducible refine gate_dst (N := 4) rfl ?_); (try (refine gate_guard (by rfl) ?_; dsimp only)); refine box_event ?hg (N := 4) ?hd (cs := #[.slice none 0 0, .int .i64 0, .int .u64 0, .int .u64 0, .int .u64 0, .int .u64 0, .bool false]) (t := 29) ?hr ?_; (case hd => rfl); (case hg => rfl); (case hr => first | (go_simp; done) | (go_simp; rfl)); intro gb227 hg w32 hbox hb; have n0_ := Aside0.mk (Kd.R_below (by (with_reducible repeat (first | apply Kd.R_alloc | apply Kd.R_drewN | apply Kd.R_drew)); exact HO198.out) hb); have n1_ := Aside0.mk (Kd.R_below (by (with_reducible repeat (first | apply Kd.R_alloc | apply Kd.R_drewN | apply Kd.R_drew)); exact HO202.out) hb); have n2_ := Aside0.mk (Kd.R_below (by (with_reducible repeat (first | apply Kd.R_alloc | apply Kd.R_drewN | apply Kd.R_drew)); exact HO205.out) hb); have n3_ := Aside0.mk (Kd.R_below (by (with_reducible repeat (first | apply Kd.R_alloc | apply Kd.R_drewN | apply Kd.R_drew)); exact HO216.out) hb); have n4_ := Aside0.mk (Kd.R_below (by (with_reducible repeat (first | apply Kd.R_alloc | apply Kd.R_drewN | apply Kd.R_drew)); exact HO219.out) hb); have n5_ := offertorylaw13_awake.keepB BK199 hb; have n6_ := offertorylaw13_awake.keepB BK213 hb; have n7_ := Aside0.mk (below_step (by repeat (first | (with_reducible first | exact HB.out | apply below_alloc | apply pw_below_drewN | apply below_drew1 | refine below_set ?_ GE199.out | refine below_set ?_ GE213.out) | exact HB.out)) hb); have n8_ := Aside0.mk (hbox); have n9_ := Aside0.mk ((by rw [hg]; exact (below_size (by repeat (first | (with_reducible first | exact HB.out | apply below_alloc | apply pw_below_drewN | apply below_drew1 | refine below_set ?_ GE199.out | refine below_set ?_ GE213.out) | exact HB.out))) : w.heap.size ≤ gb227)); have n10_ := Aside0.mk ((by rw [hg]; exact (below_size (by repeat (first | (with_reducible first | exact HB.out | apply below_alloc | apply pw_below_drewN | apply below_drew1 | refine below_set ?_ GE199.out | refine below_set ?_ GE213.out) | exact HB.out))) : w.heap.size ≤ gb227)); have n11_ := offertorylaw13_awake.neL BK199 hg; have n12_ := offertorylaw13_awake.neG BK199 hg; have n13_ := offertorylaw13_awake.neL BK213 hg; have n14_ := offertorylaw13_awake.neG BK213 hg; clear HO198; clear HO202; clear HO205; clear HO216; clear HO219; clear BK199; clear BK213; clear HB; have HO198 := n0_; have HO202 := n1_; have HO205 := n2_; have HO216 := n3_; have HO219 := n4_; have BK199 := n5_; have BK213 := n6_; have HB := n7_; have BK227 := n8_; have GW227 := n9_; have GE227 := n10_; have NB199_227 := n11_; have NB227_199 := n12_; have NB213_227 := n13_; have NB227_213 := n14_; clear n0_ n1_ n2_ n3_ n4_ n5_ n6_ n7_ n8_ n9_ n10_ n11_ n12_ n13_ n14_; clear hb hbox hg; obtain ⟨Ao33, co33, eo33⟩ := Kd.R_slice HO219.out; subst eo33; have hnb34 := NB227_199.out; have hnc34 := NB199_227.out; have hnb35 := NB227_213.out; have hnc35 := NB213_227.out; have hcz36_0 : w32.cell? ⟨gb227, 0, none⟩ = some (.slice none 0 0) := (blk_cell BK227.out 0).trans rfl; have hcz36_1 : w32.cell? ⟨gb227, 1, none⟩ = some (.int .i64 0) := (blk_cell BK227.out 1).trans rfl; have hcz36_2 : w32.cell? ⟨gb227, 2, none⟩ = some (.int .u64 0) := (blk_cell BK227.out 2).trans rfl; have hcz36_3 : w32.cell? ⟨gb227, 3, none⟩ = some (.int .u64 0) := (blk_cell BK227.out 3).trans rfl; have hcz36_4 : w32.cell? ⟨gb227, 4, none⟩ = some (.int .u64 0) := (blk_cell BK227.out 4).trans rfl; have hcz36_5 : w32.cell? ⟨gb227, 5, none⟩ = some (.int .u64 0) := (blk_cell BK227.out 5).trans rfl; have hcz36_6 : w32.cell? ⟨gb227, 6, none⟩ = some (.bool false) := (blk_cell BK227.out 6).trans rfl; have hfz36_0 := blk_frozen BK227.out 0; have hfz36_1 := blk_frozen BK227.out 1; have hfz36_2 := blk_frozen BK227.out 2; have hfz36_3 := blk_frozen BK227.out 3; have hfz36_4 := blk_frozen BK227.out 4; have hfz36_5 := blk_frozen BK227.out 5; have hfz36_6 := blk_frozen BK227.out 6; have hcz37_0 : w32.cell? ⟨gb213, 0, none⟩ = some (.slice Ao24 t203.length co24) := (blk_cell BK213.out 0).trans rfl; have hcz37_1 : w32.cell? ⟨gb213, 1, none⟩ = some (.int .i64 t206) := (blk_cell BK213.out 1).trans rfl; have hcz37_2 : w32.cell? ⟨gb213, 2, none⟩ = some (.int .u64 t207) := (blk_cell BK213.out 2).trans rfl; have hcz37_3 : w32.cell? ⟨gb213, 3, none⟩ = some (.int .u64 t208) := (blk_cell BK213.out 3).trans rfl; have hcz37_4 : w32.cell? ⟨gb213, 4, none⟩ = some (.int .u64 t209) := (blk_cell BK213.out 4).trans rfl; have hcz37_5 : w32.cell? ⟨gb213, 5, none⟩ = some (.int .u64 t210) := (blk_cell BK213.out 5).trans rfl; have hcz37_6 : w32.cell? ⟨gb213, 6, none⟩ = some (.bool true) := (blk_cell BK213.out 6).trans rfl; have hfz37_0 := blk_frozen BK213.out 0; have hfz37_1 := blk_frozen BK213.out 1; have hfz37_2 := blk_frozen BK213.out 2; have hfz37_3 := blk_frozen BK213.out 3; have hfz37_4 := blk_frozen BK213.out 4; have hfz37_5 := blk_frozen BK213.out 5; have hfz37_6 := blk_frozen BK213.out 6; have p228 : 0 ≤ (0 : Int) := (by omega); have q228 : 0 < (t203.length : Int) := of_decide_eq_true (by first | (with_reducible assumption) | assumption); obtain ⟨ad228, e228, hx228_0⟩ := Kd.at_int (Kd.R_reads' HO205.out).2.2 0 p228 q228; cases e228; have qi228 : (0 < t203.length) = True := eq_true (by omega); (try rw [show ((0 : Int)).toNat = 0 from rfl] at hx228_0); (try rw [Addr.add_zero'] at hx228_0); have hn228_0 : ad228.block ≠ gb227 := Kd.own_blk (Kd.R_ne HO205.out BK227.out (by decide)); have hn228_1 : ad228.block ≠ gb227 := Kd.own_blk (Kd.R_ne HO205.out BK227.out (by decide)); have hn228_2 : ad228.block ≠ gb227 := Kd.own_blk (Kd.R_ne HO205.out BK227.out (by decide)); have hn228_3 : ad228.block ≠ gb227 := Kd.own_blk (Kd.R_ne HO205.out BK227.out (by decide)); have hn228_4 : ad228.block ≠ gb227 := Kd.own_blk (Kd.R_ne HO205.out BK227.out (by decide)); have hn228_5 : ad228.block ≠ gb227 := Kd.own_blk (Kd.R_ne HO205.out BK227.out (by decide)); have hn228_6 : ad228.block ≠ gb227 := Kd.own_blk (Kd.R_ne HO205.out BK227.out (by decide)); replace hx228_0 := (cell_far (p := ⟨gb227, 0, none⟩) (by first | (rw [add_block]; exact hn228_0) | (show (Addr.add _ _).block ≠ _; rw [add_block]; exact hn228_0) | exact hn228_0) (.slice Ao33 t217.length co33)).trans hx228_0; replace hx228_0 := (cell_far (p := ⟨gb227, 1, none⟩) (by first | (rw [add_block]; exact hn228_1) | (show (Addr.add _ _).block ≠ _; rw [add_block]; exact hn228_1) | exact hn228_1) (.int .i64 t220)).trans hx228_0; replace hx228_0 := (cell_far (p := ⟨gb227, 2, none⟩) (by first | (rw [add_block]; exact hn228_2) | (show (Addr.add _ _).block ≠ _; rw [add_block]; exact hn228_2) | exact hn228_2) (.int .u64 t221)).trans hx228_0; replace hx228_0 := (cell_far (p := ⟨gb227, 3, none⟩) (by first | (rw [add_block]; exact hn228_3) | (show (Addr.add _ _).block ≠ _; rw [add_block]; exact hn228_3) | exact hn228_3) (.int .u64 t222)).trans hx228_0; replace hx228_0 := (cell_far (p := ⟨gb227, 4, none⟩) (by first | (rw [add_block]; exact hn228_4) | (show (Addr.add _ _).block ≠ _; rw [add_block]; exact hn228_4) | exact hn228_4) (.int .u64 t223)).trans hx228_0; replace hx228_0 := (cell_far (p := ⟨gb227, 5, none⟩) (by first | (rw [add_block]; exact hn228_5) | (show (Addr.add _ _).block ≠ _; rw [add_block]; exact hn228_5) | exact hn228_5) (.int .u64 t224)).trans hx228_0; replace hx228_0 := (cell_far (p := ⟨gb227, 6, none⟩) (by first | (rw [add_block]; exact hn228_6) | (show (Addr.add _ _).block ≠ _; rw [add_block]; exact hn228_6) | exact hn228_6) (.bool t225)).trans hx228_0; clear hn228_0; clear hn228_1; clear hn228_2; clear hn228_3; clear hn228_4; clear hn228_5; clear hn228_6; replace p228 := eq_true p228; replace q228 := eq_true q228) | (go_at_call 17; (with_reducible refine (stats_Same.calls k _ _ t203 t206 t207 t208 t209 t210 true _ _ t203 t206 t207 t208 t209 t210 true t229 _ ?side1 ?side2 ?side3 ?side4 A13.out).mono ?_); (case side1 => refine (Kd.R_reads' (e := 3) (base := w.heap.size) (ok := fun k_ => (((True ∧ some k_ ≠ (.slice Ao16 y196.length co16 : Value).ownBlock) ∧ some k_ ≠ (.slice Ao21 y200.length co21 : Value).ownBlock) ∧ some k_ ≠ (.slice Ao33 t217.length co33 : Value).ownBlock)) (n := t203.length) (c := co24) ?_).2.2; exact (by (with_reducible repeat (first | apply Kd.R_alloc | apply Kd.R_drewN | apply Kd.R_drew)); exact (Kd.R_mono (Kd.R_far (p := ⟨gb227, 6, none⟩) (Kd.R_far (p := ⟨gb227, 5, none⟩) (Kd.R_far (p := ⟨gb227, 4, none⟩) (Kd.R_far (p := ⟨gb227, 3, none⟩) (Kd.R_far (p := ⟨gb227, 2, none⟩) (Kd.R_far (p := ⟨gb227, 1, none⟩) (Kd.R_far (p := ⟨gb227, 0, none⟩) (Kd.R_types HO205.out BK227.out (by decide)) (fun _ hk => hk.2) (.slice Ao33 t217.length co33)) (fun _ hk => hk.2) (.int .i64 t220)) (fun _ hk => hk.2) (.int .u64 t221)) (fun _ hk => hk.2) (.int .u64 t222)) (fun _ hk => hk.2) (.int .u64 t223)) (fun _ hk => hk.2) (.int .u64 t224)) (fun _ hk => hk.2) (.bool t225)) (fun _ h_ => h_.1)))); (case side2 => exact (Kd.R_reads' HO205.out).2.1); (case side3 => refine (Kd.R_reads' (e := 3) (base := w.heap.size) (ok := fun k_ => (((True ∧ some k_ ≠ (.slice Ao16 y196.length co16 : Value).ownBlock) ∧ some k_ ≠ (.slice Ao21 y200.length co21 : Value).ownBlock) ∧ some k_ ≠ (.slice Ao33 t217.length co33 : Value).ownBlock)) (n := t203.length) (c := co24) ?_).2.2; exact (by (with_reducible repeat (first | apply Kd.R_alloc | apply Kd.R_drewN | apply Kd.R_drew)); exact (Kd.R_mono (Kd.R_far (p := ⟨gb227, 6, none⟩) (Kd.R_far (p := ⟨gb227, 5, none⟩) (Kd.R_far (p := ⟨gb227, 4, none⟩) (Kd.R_far (p := ⟨gb227, 3, none⟩) (Kd.R_far (p := ⟨gb227, 2, none⟩) (Kd.R_far (p := ⟨gb227, 1, none⟩) (Kd.R_far (p := ⟨gb227, 0, none⟩) (Kd.R_types HO205.out BK227.out (by decide)) (fun _ hk => hk.2) (.slice Ao33 t217.length co33)) (fun _ hk => hk.2) (.int .i64 t220)) (fun _ hk => hk.2) (.int .u64 t221)) (fun _ hk => hk.2) (.int .u64 t222)) (fun _ hk => hk.2) (.int .u64 t223)) (fun _ hk => hk.2) (.int .u64 t224)) (fun _ hk => hk.2) (.bool t225)) (fun _ h_ => h_.1)))); (case side4 => exact (Kd.R_reads' HO205.out).2.1); rintro e w38 ⟨rfl, hb⟩; have n0_ := Aside0.mk (Kd.R_below (by (with_reducible repeat (first | apply Kd.R_alloc | apply Kd.R_drewN | apply Kd.R_drew)); exact (Kd.R_mono (Kd.R_far (p := ⟨gb227, 6, none⟩) (Kd.R_far (p := ⟨gb227, 5, none⟩) (Kd.R_far (p := ⟨gb227, 4, none⟩) (Kd.R_far (p := ⟨gb227, 3, none⟩) (Kd.R_far (p := ⟨gb227, 2, none⟩) (Kd.R_far (p := ⟨gb227, 1, none⟩) (Kd.R_far (p := ⟨gb227, 0, none⟩) (Kd.R_types HO198.out BK227.out (by decide)) (fun _ hk => hk.2) (.slice Ao33 t217.length co33)) (fun _ hk => hk.2) (.int .i64 t220)) (fun _ hk => hk.2) (.int .u64 t221)) (fun _ hk => hk.2) (.int .u64 t222)) (fun _ hk => hk.2) (.int .u64 t223)) (fun _ hk => hk.2) (.int .u64 t224)) (fun _ hk => hk.2) (.bool t225)) (fun _ h_ => h_.1))) hb); have n1_ := Aside0.mk (Kd.R_below (by (with_reducible repeat (first | apply Kd.R_alloc | apply Kd.R_drewN | apply Kd.R_drew)); exact (Kd.R_mono (Kd.R_far (p := ⟨gb227, 6, none⟩) (Kd.R_far (p := ⟨gb227, 5, none⟩) (Kd.R_far (p := ⟨gb227, 4, none⟩) (Kd.R_far (p := ⟨gb227, 3, none⟩) (Kd.R_far (p := ⟨gb227, 2, none⟩) (Kd.R_far (p := ⟨gb227, 1, none⟩) (Kd.R_far (p := ⟨gb227, 0, none⟩) (Kd.R_types HO202.out BK227.out (by decide)) (fun _ hk => hk.2) (.slice Ao33 t217.length co33)) (fun _ hk => hk.2) (.int .i64 t220)) (fun _ hk => hk.2) (.int .u64 t221)) (fun _ hk => hk.2) (.int .u64 t222)) (fun _ hk => hk.2) (.int .u64 t223)) (fun _ hk => hk.2) (.int .u64 t224)) (fun _ hk => hk.2) (.bool t225)) (fun _ h_ => h_.1))) hb); have n2_ := Aside0.mk (Kd.R_below (by (with_reducible repeat (first | apply Kd.R_alloc | apply Kd.R_drewN | apply Kd.R_drew)); exact (Kd.R_mono (Kd.R_far (p := ⟨gb227, 6, none⟩) (Kd.R_far (p := ⟨gb227, 5, none⟩) (Kd.R_far (p := ⟨gb227, 4, none⟩) (Kd.R_far (p := ⟨gb227, 3, none⟩) (Kd.R_far (p := ⟨gb227, 2, none⟩) (Kd.R_far (p := ⟨gb227, 1, none⟩) (Kd.R_far (p := ⟨gb227, 0, none⟩) (Kd.R_types HO205.out BK227.out (by decide)) (fun _ hk => hk.2) (.slice Ao33 t217.length co33)) (fun _ hk => hk.2) (.int .i64 t220)) (fun _ hk => hk.2) (.int .u64 t221)) (fun _ hk => hk.2) (.int .u64 t222)) (fun _ hk => hk.2) (.int .u64 t223)) (fun _ hk => hk.2) (.int .u64 t224)) (fun _ hk => hk.2) (.bool t225)) (fun _ h_ => h_.1))) hb); have n3_ := Aside0.mk (Kd.R_below (by (with_reducible repeat (first | apply Kd.R_alloc | apply Kd.R_drewN | apply Kd.R_drew)); exact (Kd.R_mono (Kd.R_far (p := ⟨gb227, 6, none⟩) (Kd.R_far (p := ⟨gb227, 5, none⟩) (Kd.R_far (p := ⟨gb227, 4, none⟩) (Kd.R_far (p := ⟨gb227, 3, none⟩) (Kd.R_far (p := ⟨gb227, 2, none⟩) (Kd.R_far (p := ⟨gb227, 1, none⟩) (Kd.R_far (p := ⟨gb227, 0, none⟩) (Kd.R_types HO216.out BK227.out (by decide)) (fun _ hk => hk.2) (.slice Ao33 t217.length co33)) (fun _ hk => hk.2) (.int .i64 t220)) (fun _ hk => hk.2) (.int .u64 t221)) (fun _ hk => hk.2) (.int .u64 t222)) (fun _ hk => hk.2) (.int .u64 t223)) (fun _ hk => hk.2) (.int .u64 t224)) (fun _ hk => hk.2) (.bool t225)) (fun _ h_ => h_.1))) hb); have n4_ := Aside0.mk (Kd.R_below (by (with_reducible repeat (first | apply Kd.R_alloc | apply Kd.R_drewN | apply Kd.R_drew)); exact (Kd.R_mono (Kd.R_far (p := ⟨gb227, 6, none⟩) (Kd.R_far (p := ⟨gb227, 5, none⟩) (Kd.R_far (p := ⟨gb227, 4, none⟩) (Kd.R_far (p := ⟨gb227, 3, none⟩) (Kd.R_far (p := ⟨gb227, 2, none⟩) (Kd.R_far (p := ⟨gb227, 1, none⟩) (Kd.R_far (p := ⟨gb227, 0, none⟩) (Kd.R_types HO219.out BK227.out (by decide)) (fun _ hk => hk.2) (.slice Ao33 t217.length co33)) (fun _ hk => hk.2) (.int .i64 t220)) (fun _ hk => hk.2) (.int .u64 t221)) (fun _ hk => hk.2) (.int .u64 t222)) (fun _ hk => hk.2) (.int .u64 t223)) (fun _ hk => hk.2) (.int .u64 t224)) (fun _ hk => hk.2) (.bool t225)) (fun _ h_ => h_.1))) hb); have n5_ := Aside0.mk (blk_below (g := gb199) (o := .cells #[.int .i64 (-3), .int .i64 4, .int .i64 9, .slice Ao16 y196.length co16] 24 (0, 0)) (by (repeat (first | (with_reducible first | refine blk_drewN ?_ _ | refine blk_drew ?_ | refine blk_alloc ?_ _) | refine blk_far ?_ NB199_227.out _)); (with_reducible repeat (first | refine blk_drewN ?_ _ | refine blk_drew ?_ | refine blk_alloc ?_ _)); exact BK199.out) hb); have n6_ := Aside0.mk (blk_below (g := gb213) (o := .cells #[.slice (some ad228) t203.length co24, .int .i64 t206, .int .u64 t207, .int .u64 t208, .int .u64 t209, .int .u64 t210, .bool true] 29 (0, 0)) (by (repeat (first | (with_reducible first | refine blk_drewN ?_ _ | refine blk_drew ?_ | refine blk_alloc ?_ _) | refine blk_far ?_ NB213_227.out _)); (with_reducible repeat (first | refine blk_drewN ?_ _ | refine blk_drew ?_ | refine blk_alloc ?_ _)); exact BK213.out) hb); have n7_ := Aside0.mk (blk_below (g := gb227) (o := .cells #[.slice Ao33 t217.length co33, .int .i64 t220, .int .u64 t221, .int .u64 t222, .int .u64 t223, .int .u64 t224, .bool t225] 29 (0, 0)) (by (with_reducible repeat (first | refine blk_drewN ?_ _ | refine blk_drew ?_ | refine blk_alloc ?_ _)); refine blk_put (cs := #[.slice Ao33 t217.length co33, .int .i64 t220, .int .u64 t221, .int .u64 t222, .int .u64 t223, .int .u64 t224, .bool false]) ?_ 6 _ rfl; (with_reducible repeat (first | refine blk_drewN ?_ _ | refine blk_drew ?_ | refine blk_alloc ?_ _)); refine blk_put (cs := #[.slice Ao33 t217.length co33, .int .i64 t220, .int .u64 t221, .int .u64 t222, .int .u64 t223, .int .u64 0, .bool false]) ?_ 5 _ rfl; (with_reducible repeat (first | refine blk_drewN ?_ _ | refine blk_drew ?_ | refine blk_alloc ?_ _)); refine blk_put (cs := #[.slice Ao33 t217.length co33, .int .i64 t220, .int .u64 t221, .int .u64 t222, .int .u64 0, .int .u64 0, .bool false]) ?_ 4 _ rfl; (with_reducible repeat (first | refine blk_drewN ?_ _ | refine blk_drew ?_ | refine blk_alloc ?_ _)); refine blk_put (cs := #[.slice Ao33 t217.length co33, .int .i64 t220, .int .u64 t221, .int .u64 0, .int .u64 0, .int .u64 0, .bool false]) ?_ 3 _ rfl; (with_reducible repeat (first | refine blk_drewN ?_ _ | refine blk_drew ?_ | refine blk_alloc ?_ _)); refine blk_put (cs := #[.slice Ao33 t217.length co33, .int .i64 t220, .int .u64 0, .int .u64 0, .int .u64 0, .int .u64 0, .bool false]) ?_ 2 _ rfl; (with_reducible repeat (first | refine blk_drewN ?_ _ | refine blk_drew ?_ | refine blk_alloc ?_ _)); refine blk_put (cs := #[.slice Ao33 t217.length co33, .int .i64 0, .int .u64 0, .int .u64 0, .int .u64 0, .int .u64 0, .bool false]) ?_ 1 _ rfl; (with_reducible repeat (first | refine blk_drewN ?_ _ | refine blk_drew ?_ | refine blk_alloc ?_ _)); refine blk_put (cs := #[.slice none 0 0, .int .i64 0, .int .u64 0, .int .u64 0, .int .u64 0, .int .u64 0, .bool false]) ?_ 0 _ rfl; (with_reducible repeat (first | refine blk_drewN ?_ _ | refine blk_drew ?_ | refine blk_alloc ?_ _)); exact BK227.out) hb); have n8_ := Aside0.mk (below_step (by repeat (first | (with_reducible first | exact HB.out | apply below_alloc | apply pw_below_drewN | apply below_drew1 | refine below_set ?_ GE199.out | refine below_set ?_ GE213.out | refine below_set ?_ GE227.out) | exact HB.out)) hb); clear HO198; clear HO202; clear HO205; clear HO216; clear HO219; clear BK199; clear BK213; clear BK227; clear HB; have HO198 := n0_; have HO202 := n1_; have HO205 := n2_; have HO216 := n3_; have HO219 := n4_; have BK199 := n5_; have BK213 := n6_; have BK227 := n7_; have HB := n8_; clear n0_ n1_ n2_ n3_ n4_ n5_ n6_ n7_ n8_; (try clear hb); (try clear hb2); (try clear hk); (try clear hi)))
                      go_ret
                      exact ⟨by first | rfl | (simp [errW_none, errW_some] <;> rfl) | (simp [*, errW_none, errW_some] <;> rfl), by repeat (first | (with_reducible first | exact HB.out | apply below_alloc | apply pw_below_drewN | apply below_drew1 | refine below_set ?_ GE199.out | refine below_set ?_ GE213.out | refine below_set ?_ GE227.out) | exact HB.out)⟩
                    · rw [if_neg c12] at H
                      exact absurd H (by simp)
                  · rw [if_neg c11] at H
                    exact absurd H (by simp)
                · rw [if_neg c10] at H
                  exact absurd H (by simp)
              · rw [if_neg c9] at H
                exact absurd H (by simp)
            · rw [if_neg c8] at H
              exact absurd H (by simp)
          · rw [if_neg c7] at H
            exact absurd H (by simp)
        · replace c6 := Bool.eq_false_iff.mpr c6
          subst c6
          have H1 : (none) = some r := by rw [if_neg (show ¬ (false = true) by decide)] at H; exact H
          clear H
          have H := H1
          clear H1
          exact absurd H (by simp)
      · rw [if_neg c5] at H
        exact absurd H (by simp)
    · rw [if_neg c4] at H
      exact absurd H (by simp)
  · rw [if_neg c3] at H
    exact absurd H (by simp)

theorem offertoryref09_Same.keepB {W0 W w1 : World} {g : Nat} {o : Obj} (h : Aside0 (W0.heap[g]? = some o)) (hb : Below W.heap.size W w1) (hs : W0.heap[g]? = some o → W.heap[g]? = some o := by intro h_; (with_reducible repeat (first | refine blk_drewN ?_ _ | refine blk_drew ?_ | refine blk_alloc ?_ _)); exact h_) : Aside0 (w1.heap[g]? = some o) := ⟨(hb.block g (blk_lt (hs h.out))).trans (hs h.out)⟩
theorem offertoryref09_Same.neL {W0 W : World} {g gb : Nat} {o : Obj} (h : Aside0 (W0.heap[g]? = some o)) (hg : gb = W.heap.size) (hs : W0.heap[g]? = some o → W.heap[g]? = some o := by intro h_; (with_reducible repeat (first | refine blk_drewN ?_ _ | refine blk_drew ?_ | refine blk_alloc ?_ _)); exact h_) : Aside0 (g ≠ gb) := ⟨by rw [hg]; exact Nat.ne_of_lt (blk_lt (hs h.out))⟩
theorem offertoryref09_Same.neG {W0 W : World} {g gb : Nat} {o : Obj} (h : Aside0 (W0.heap[g]? = some o)) (hg : gb = W.heap.size) (hs : W0.heap[g]? = some o → W.heap[g]? = some o := by intro h_; (with_reducible repeat (first | refine blk_drewN ?_ _ | refine blk_drew ?_ | refine blk_alloc ?_ _)); exact h_) : Aside0 (gb ≠ g) := ⟨by rw [hg]; exact Nat.ne_of_gt (blk_lt (hs h.out))⟩
/-! ### offertoryref09_Same: function 11 -/
def offertoryref09_Same.l0 : Nat → Int → List Int → Int → Int → Int → Int → Int → Bool → List Int → Int → Int → Int → Int → Int → Bool → Option (Bool)
  | 0, _, _, _, _, _, _, _, _, _, _, _, _, _, _, _ => none
  | k + 1, x5, x231000, x231001, x231002, x231003, x231004, x231005, x231006, x232000, x232001, x232002, x232003, x232004, x232005, x232006 => if x5 < (x231000.length : Int) then (if 0 ≤ x5 then (if x5 < (x232000.length : Int) then (if (rd x231000 x5) = (rd x232000 x5) then (offertoryref09_Same.l0 k (wrap64 (x5 + 1)) x231000 x231001 x231002 x231003 x231004 x231005 x231006 x232000 x232001 x232002 x232003 x232004 x232005 x232006) else (some false)) else (none)) else (none)) else (if x231001 = x232001 then (if (x231002 == x232002 && (x231003 == x232003)) = true then (if (x231004 == x232004 && (x231005 == x232005)) = true then (some (x231006 == x232006)) else (some false)) else (some false)) else (some false))
def offertoryref09_Same.f (k : Nat) (l0_0 : List Int) (a0_1 : Int) (a0_2 : Int) (a0_3 : Int) (a0_4 : Int) (a0_5 : Int) (a0_6 : Bool) (l1_0 : List Int) (a1_1 : Int) (a1_2 : Int) (a1_3 : Int) (a1_4 : Int) (a1_5 : Int) (a1_6 : Bool) : Option (Bool) := if (l0_0.length : Int) = (l1_0.length : Int) then (offertoryref09_Same.l0 k 0 l0_0 a0_1 a0_2 a0_3 a0_4 a0_5 a0_6 l1_0 a1_1 a1_2 a1_3 a1_4 a1_5 a1_6) else (some false)
theorem offertoryref09_Same.mono_l : ∀ k, (∀ y0 y1 y2 y3 y4 y5 y6 y7 y8 y9 y10 y11 y12 y13 y14, LeO (offertoryref09_Same.l0 k y0 y1 y2 y3 y4 y5 y6 y7 y8 y9 y10 y11 y12 y13 y14) (offertoryref09_Same.l0 (k + 1) y0 y1 y2 y3 y4 y5 y6 y7 y8 y9 y10 y11 y12 y13 y14))
  | 0 => fun _ _ _ _ _ _ _ _ _ _ _ _ _ _ _ r h => by simp [offertoryref09_Same.l0] at h
  | k + 1 => by
    have ih0 := offertoryref09_Same.mono_l k
    · intro y0 y1 y2 y3 y4 y5 y6 y7 y8 y9 y10 y11 y12 y13 y14
      unfold offertoryref09_Same.l0
      repeat' first
      | (with_reducible exact ih0 _ _ _ _ _ _ _ _ _ _ _ _ _ _ _)
      | (with_reducible exact LeO.refl _)
      | (with_reducible exact LeO.none _)
      | (with_reducible refine LeO.ite ?_ ?_)
      | (with_reducible refine LeO.bind ?_ (fun _ => ?_))
      | exact ih0 _ _ _ _ _ _ _ _ _ _ _ _ _ _ _
      | exact LeO.none _
      | refine LeO.ite ?_ ?_
      | refine LeO.bind ?_ (fun _ => ?_)
theorem offertoryref09_Same.mono : ∀ a0 a1 a2 a3 a4 a5 a6 a7 a8 a9 a10 a11 a12 a13 k, LeO (offertoryref09_Same.f k a0 a1 a2 a3 a4 a5 a6 a7 a8 a9 a10 a11 a12 a13) (offertoryref09_Same.f (k + 1) a0 a1 a2 a3 a4 a5 a6 a7 a8 a9 a10 a11 a12 a13) := by
  intro a0 a1 a2 a3 a4 a5 a6 a7 a8 a9 a10 a11 a12 a13 k
  have ih0 := offertoryref09_Same.mono_l k
  unfold offertoryref09_Same.f
  repeat' first
      | (with_reducible exact ih0 _ _ _ _ _ _ _ _ _ _ _ _ _ _ _)
      | (with_reducible exact LeO.refl _)
      | (with_reducible exact LeO.none _)
      | (with_reducible refine LeO.ite ?_ ?_)
      | (with_reducible refine LeO.bind ?_ (fun _ => ?_))
      | exact ih0 _ _ _ _ _ _ _ _ _ _ _ _ _ _ _
      | exact LeO.none _
      | refine LeO.ite ?_ ?_
      | refine LeO.bind ?_ (fun _ => ?_)
set_option maxHeartbeats 8000000 in
set_option maxRecDepth 100000 in
theorem offertoryref09_Same.calls (k : Nat) (A0_0 : Option Addr) (c0_0 : Nat) (l0_0 : List Int) (a0_1 : Int) (a0_2 : Int) (a0_3 : Int) (a0_4 : Int) (a0_5 : Int) (a0_6 : Bool) (A1_0 : Option Addr) (c1_0 : Nat) (l1_0 : List Int) (a1_1 : Int) (a1_2 : Int) (a1_3 : Int) (a1_4 : Int) (a1_5 : Int) (a1_6 : Bool) (r : Bool) (w : World) (hr0_0 : Kd.C (Kd.int .i64) w A0_0 l0_0.length l0_0) (hc0_0 : l0_0.length ≤ c0_0) (hr1_0 : Kd.C (Kd.int .i64) w A1_0 l1_0.length l1_0) (hc1_0 : l1_0.length ≤ c1_0) (h : offertoryref09_Same.f k l0_0 a0_1 a0_2 a0_3 a0_4 a0_5 a0_6 l1_0 a1_1 a1_2 a1_3 a1_4 a1_5 a1_6 = some r) :
    Calls Try.prog 11 #[.agg #[.slice A0_0 l0_0.length c0_0, .int .i64 a0_1, .int .u64 a0_2, .int .u64 a0_3, .int .u64 a0_4, .int .u64 a0_5, .bool a0_6], .agg #[.slice A1_0 l1_0.length c1_0, .int .i64 a1_1, .int .u64 a1_2, .int .u64 a1_3, .int .u64 a1_4, .int .u64 a1_5, .bool a1_6]] w fun e w' => e = .returned (.bool r) ∧ Below w.heap.size w w' := by
  have hu29 := Try.underlying29
  have hu27 := Try.underlying27
  have HR0_0 := Aside0.mk hr0_0
  have HC0_0 := Aside0.mk hc0_0
  clear hr0_0 hc0_0
  have HR1_0 := Aside0.mk hr1_0
  have HC1_0 := Aside0.mk hc1_0
  clear hr1_0 hc1_0
  have HB := Aside0.mk (Below.refl w.heap.size w)
  have H : (if (l0_0.length : Int) = (l1_0.length : Int) then (offertoryref09_Same.l0 k 0 l0_0 a0_1 a0_2 a0_3 a0_4 a0_5 a0_6 l1_0 a1_1 a1_2 a1_3 a1_4 a1_5 a1_6) else (some false)) = some r := h
  clear h
  by_cases c3 : (l0_0.length : Int) = (l1_0.length : Int)
  · rw [if_pos c3] at H
    have c3b0 : ((l0_0.length : Int) == (l1_0.length : Int)) = true := beq_iff_eq.mpr c3
    have c3b1 : ((l0_0.length : Int) != (l1_0.length : Int)) = false := bne_eq_false_iff_eq.mpr c3
    have c3b2 : (l0_0.length == l1_0.length) = true := by first | simpa using c3 | (simp at c3 ⊢; omega)
    clear c3
    have H' := Aside0.mk H
    clear H
    go_enter Try.func11, Try.ntmps11
    go_wp2_with (first | ((with_reducible refine gate_dst (N := 2) rfl ?_); refine box_event ?hg (N := 2) ?hd (cs := #[.slice A0_0 l0_0.length c0_0, .int .i64 a0_1, .int .u64 a0_2, .int .u64 a0_3, .int .u64 a0_4, .int .u64 a0_5, .bool a0_6]) (t := 29) ?hr ?_; (case hd => rfl); (case hg => rfl); (case hr => first | (go_simp; done) | (go_simp; rfl)); intro gb230 hg w4 hbox hb; have n0_ := Aside0.mk (below_step (by repeat (first | (with_reducible first | exact HB.out | apply below_alloc | apply pw_below_drewN | apply below_drew1) | exact HB.out)) hb); have n1_ := Aside0.mk (hbox); have n2_ := Aside0.mk ((by rw [hg]; exact (below_size (by repeat (first | (with_reducible first | exact HB.out | apply below_alloc | apply pw_below_drewN | apply below_drew1) | exact HB.out))) : w.heap.size ≤ gb230)); have n3_ := Aside0.mk ((by rw [hg]; exact (below_size (by repeat (first | (with_reducible first | exact HB.out | apply below_alloc | apply pw_below_drewN | apply below_drew1) | exact HB.out))) : w.heap.size ≤ gb230)); clear HB; have HB := n0_; have BK230 := n1_; have GW230 := n2_; have GE230 := n3_; clear n0_ n1_ n2_ n3_; clear hb hbox hg) | ((with_reducible refine gate_dst (N := 3) rfl ?_); refine box_event ?hg (N := 3) ?hd (cs := #[.slice A1_0 l1_0.length c1_0, .int .i64 a1_1, .int .u64 a1_2, .int .u64 a1_3, .int .u64 a1_4, .int .u64 a1_5, .bool a1_6]) (t := 29) ?hr ?_; (case hd => rfl); (case hg => rfl); (case hr => first | (go_simp; done) | (go_simp; rfl)); intro gb231 hg w5 hbox hb; have n0_ := offertoryref09_Same.keepB BK230 hb; have n1_ := Aside0.mk (below_step (by repeat (first | (with_reducible first | exact HB.out | apply below_alloc | apply pw_below_drewN | apply below_drew1 | refine below_set ?_ GE230.out) | exact HB.out)) hb); have n2_ := Aside0.mk (hbox); have n3_ := Aside0.mk ((by rw [hg]; exact (below_size (by repeat (first | (with_reducible first | exact HB.out | apply below_alloc | apply pw_below_drewN | apply below_drew1 | refine below_set ?_ GE230.out) | exact HB.out))) : w.heap.size ≤ gb231)); have n4_ := Aside0.mk ((by rw [hg]; exact (below_size (by repeat (first | (with_reducible first | exact HB.out | apply below_alloc | apply pw_below_drewN | apply below_drew1 | refine below_set ?_ GE230.out) | exact HB.out))) : w.heap.size ≤ gb231)); have n5_ := offertoryref09_Same.neL BK230 hg; have n6_ := offertoryref09_Same.neG BK230 hg; clear BK230; clear HB; have BK230 := n0_; have HB := n1_; have BK231 := n2_; have GW231 := n3_; have GE231 := n4_; have NB230_231 := n5_; have NB231_230 := n6_; clear n0_ n1_ n2_ n3_ n4_ n5_ n6_; clear hb hbox hg; have hnb6 := NB230_231.out; have hnc6 := NB231_230.out; have hcz7_0 : w5.cell? ⟨gb230, 0, none⟩ = some (.slice A0_0 l0_0.length c0_0) := (blk_cell BK230.out 0).trans rfl; have hcz7_1 : w5.cell? ⟨gb230, 1, none⟩ = some (.int .i64 a0_1) := (blk_cell BK230.out 1).trans rfl; have hcz7_2 : w5.cell? ⟨gb230, 2, none⟩ = some (.int .u64 a0_2) := (blk_cell BK230.out 2).trans rfl; have hcz7_3 : w5.cell? ⟨gb230, 3, none⟩ = some (.int .u64 a0_3) := (blk_cell BK230.out 3).trans rfl; have hcz7_4 : w5.cell? ⟨gb230, 4, none⟩ = some (.int .u64 a0_4) := (blk_cell BK230.out 4).trans rfl; have hcz7_5 : w5.cell? ⟨gb230, 5, none⟩ = some (.int .u64 a0_5) := (blk_cell BK230.out 5).trans rfl; have hcz7_6 : w5.cell? ⟨gb230, 6, none⟩ = some (.bool a0_6) := (blk_cell BK230.out 6).trans rfl; have hfz7_0 := blk_frozen BK230.out 0; have hfz7_1 := blk_frozen BK230.out 1; have hfz7_2 := blk_frozen BK230.out 2; have hfz7_3 := blk_frozen BK230.out 3; have hfz7_4 := blk_frozen BK230.out 4; have hfz7_5 := blk_frozen BK230.out 5; have hfz7_6 := blk_frozen BK230.out 6; have hcz8_0 : w5.cell? ⟨gb231, 0, none⟩ = some (.slice A1_0 l1_0.length c1_0) := (blk_cell BK231.out 0).trans rfl; have hcz8_1 : w5.cell? ⟨gb231, 1, none⟩ = some (.int .i64 a1_1) := (blk_cell BK231.out 1).trans rfl; have hcz8_2 : w5.cell? ⟨gb231, 2, none⟩ = some (.int .u64 a1_2) := (blk_cell BK231.out 2).trans rfl; have hcz8_3 : w5.cell? ⟨gb231, 3, none⟩ = some (.int .u64 a1_3) := (blk_cell BK231.out 3).trans rfl; have hcz8_4 : w5.cell? ⟨gb231, 4, none⟩ = some (.int .u64 a1_4) := (blk_cell BK231.out 4).trans rfl; have hcz8_5 : w5.cell? ⟨gb231, 5, none⟩ = some (.int .u64 a1_5) := (blk_cell BK231.out 5).trans rfl; have hcz8_6 : w5.cell? ⟨gb231, 6, none⟩ = some (.bool a1_6) := (blk_cell BK231.out 6).trans rfl; have hfz8_0 := blk_frozen BK231.out 0; have hfz8_1 := blk_frozen BK231.out 1; have hfz8_2 := blk_frozen BK231.out 2; have hfz8_3 := blk_frozen BK231.out 3; have hfz8_4 := blk_frozen BK231.out 4; have hfz8_5 := blk_frozen BK231.out 5; have hfz8_6 := blk_frozen BK231.out 6))
    repeat (go_quiet (first | ((with_reducible refine gate_dst (N := 2) rfl ?_); refine box_event ?hg (N := 2) ?hd (cs := #[.slice A0_0 l0_0.length c0_0, .int .i64 a0_1, .int .u64 a0_2, .int .u64 a0_3, .int .u64 a0_4, .int .u64 a0_5, .bool a0_6]) (t := 29) ?hr ?_; (case hd => rfl); (case hg => rfl); (case hr => first | (go_simp; done) | (go_simp; rfl)); intro gb230 hg w4 hbox hb; have n0_ := Aside0.mk (below_step (by repeat (first | (with_reducible first | exact HB.out | apply below_alloc | apply pw_below_drewN | apply below_drew1) | exact HB.out)) hb); have n1_ := Aside0.mk (hbox); have n2_ := Aside0.mk ((by rw [hg]; exact (below_size (by repeat (first | (with_reducible first | exact HB.out | apply below_alloc | apply pw_below_drewN | apply below_drew1) | exact HB.out))) : w.heap.size ≤ gb230)); have n3_ := Aside0.mk ((by rw [hg]; exact (below_size (by repeat (first | (with_reducible first | exact HB.out | apply below_alloc | apply pw_below_drewN | apply below_drew1) | exact HB.out))) : w.heap.size ≤ gb230)); clear HB; have HB := n0_; have BK230 := n1_; have GW230 := n2_; have GE230 := n3_; clear n0_ n1_ n2_ n3_; clear hb hbox hg) | ((with_reducible refine gate_dst (N := 3) rfl ?_); refine box_event ?hg (N := 3) ?hd (cs := #[.slice A1_0 l1_0.length c1_0, .int .i64 a1_1, .int .u64 a1_2, .int .u64 a1_3, .int .u64 a1_4, .int .u64 a1_5, .bool a1_6]) (t := 29) ?hr ?_; (case hd => rfl); (case hg => rfl); (case hr => first | (go_simp; done) | (go_simp; rfl)); intro gb231 hg w5 hbox hb; have n0_ := offertoryref09_Same.keepB BK230 hb; have n1_ := Aside0.mk (below_step (by repeat (first | (with_reducible first | exact HB.out | apply below_alloc | apply pw_below_drewN | apply below_drew1 | refine below_set ?_ GE230.out) | exact HB.out)) hb); have n2_ := Aside0.mk (hbox); have n3_ := Aside0.mk ((by rw [hg]; exact (below_size (by repeat (first | (with_reducible first | exact HB.out | apply below_alloc | apply pw_below_drewN | apply below_drew1 | refine below_set ?_ GE230.out) | exact HB.out))) : w.heap.size ≤ gb231)); have n4_ := Aside0.mk ((by rw [hg]; exact (below_size (by repeat (first | (with_reducible first | exact HB.out | apply below_alloc | apply pw_below_drewN | apply below_drew1 | refine below_set ?_ GE230.out) | exact HB.out))) : w.heap.size ≤ gb231)); have n5_ := offertoryref09_Same.neL BK230 hg; have n6_ := offertoryref09_Same.neG BK230 hg; clear BK230; clear HB; have BK230 := n0_; have HB := n1_; have BK231 := n2_; have GW231 := n3_; have GE231 := n4_; have NB230_231 := n5_; have NB231_230 := n6_; clear n0_ n1_ n2_ n3_ n4_ n5_ n6_; clear hb hbox hg; have hnb6 := NB230_231.out; have hnc6 := NB231_230.out; have hcz7_0 : w5.cell? ⟨gb230, 0, none⟩ = some (.slice A0_0 l0_0.length c0_0) := (blk_cell BK230.out 0).trans rfl; have hcz7_1 : w5.cell? ⟨gb230, 1, none⟩ = some (.int .i64 a0_1) := (blk_cell BK230.out 1).trans rfl; have hcz7_2 : w5.cell? ⟨gb230, 2, none⟩ = some (.int .u64 a0_2) := (blk_cell BK230.out 2).trans rfl; have hcz7_3 : w5.cell? ⟨gb230, 3, none⟩ = some (.int .u64 a0_3) := (blk_cell BK230.out 3).trans rfl; have hcz7_4 : w5.cell? ⟨gb230, 4, none⟩ = some (.int .u64 a0_4) := (blk_cell BK230.out 4).trans rfl; have hcz7_5 : w5.cell? ⟨gb230, 5, none⟩ = some (.int .u64 a0_5) := (blk_cell BK230.out 5).trans rfl; have hcz7_6 : w5.cell? ⟨gb230, 6, none⟩ = some (.bool a0_6) := (blk_cell BK230.out 6).trans rfl; have hfz7_0 := blk_frozen BK230.out 0; have hfz7_1 := blk_frozen BK230.out 1; have hfz7_2 := blk_frozen BK230.out 2; have hfz7_3 := blk_frozen BK230.out 3; have hfz7_4 := blk_frozen BK230.out 4; have hfz7_5 := blk_frozen BK230.out 5; have hfz7_6 := blk_frozen BK230.out 6; have hcz8_0 : w5.cell? ⟨gb231, 0, none⟩ = some (.slice A1_0 l1_0.length c1_0) := (blk_cell BK231.out 0).trans rfl; have hcz8_1 : w5.cell? ⟨gb231, 1, none⟩ = some (.int .i64 a1_1) := (blk_cell BK231.out 1).trans rfl; have hcz8_2 : w5.cell? ⟨gb231, 2, none⟩ = some (.int .u64 a1_2) := (blk_cell BK231.out 2).trans rfl; have hcz8_3 : w5.cell? ⟨gb231, 3, none⟩ = some (.int .u64 a1_3) := (blk_cell BK231.out 3).trans rfl; have hcz8_4 : w5.cell? ⟨gb231, 4, none⟩ = some (.int .u64 a1_4) := (blk_cell BK231.out 4).trans rfl; have hcz8_5 : w5.cell? ⟨gb231, 5, none⟩ = some (.int .u64 a1_5) := (blk_cell BK231.out 5).trans rfl; have hcz8_6 : w5.cell? ⟨gb231, 6, none⟩ = some (.bool a1_6) := (blk_cell BK231.out 6).trans rfl; have hfz8_0 := blk_frozen BK231.out 0; have hfz8_1 := blk_frozen BK231.out 1; have hfz8_2 := blk_frozen BK231.out 2; have hfz8_3 := blk_frozen BK231.out 3; have hfz8_4 := blk_frozen BK231.out 4; have hfz8_5 := blk_frozen BK231.out 5; have hfz8_6 := blk_frozen BK231.out 6)); try go_wp2_with (first | ((with_reducible refine gate_dst (N := 2) rfl ?_); refine box_event ?hg (N := 2) ?hd (cs := #[.slice A0_0 l0_0.length c0_0, .int .i64 a0_1, .int .u64 a0_2, .int .u64 a0_3, .int .u64 a0_4, .int .u64 a0_5, .bool a0_6]) (t := 29) ?hr ?_; (case hd => rfl); (case hg => rfl); (case hr => first | (go_simp; done) | (go_simp; rfl)); intro gb230 hg w4 hbox hb; have n0_ := Aside0.mk (below_step (by repeat (first | (with_reducible first | exact HB.out | apply below_alloc | apply pw_below_drewN | apply below_drew1) | exact HB.out)) hb); have n1_ := Aside0.mk (hbox); have n2_ := Aside0.mk ((by rw [hg]; exact (below_size (by repeat (first | (with_reducible first | exact HB.out | apply below_alloc | apply pw_below_drewN | apply below_drew1) | exact HB.out))) : w.heap.size ≤ gb230)); have n3_ := Aside0.mk ((by rw [hg]; exact (below_size (by repeat (first | (with_reducible first | exact HB.out | apply below_alloc | apply pw_below_drewN | apply below_drew1) | exact HB.out))) : w.heap.size ≤ gb230)); clear HB; have HB := n0_; have BK230 := n1_; have GW230 := n2_; have GE230 := n3_; clear n0_ n1_ n2_ n3_; clear hb hbox hg) | ((with_reducible refine gate_dst (N := 3) rfl ?_); refine box_event ?hg (N := 3) ?hd (cs := #[.slice A1_0 l1_0.length c1_0, .int .i64 a1_1, .int .u64 a1_2, .int .u64 a1_3, .int .u64 a1_4, .int .u64 a1_5, .bool a1_6]) (t := 29) ?hr ?_; (case hd => rfl); (case hg => rfl); (case hr => first | (go_simp; done) | (go_simp; rfl)); intro gb231 hg w5 hbox hb; have n0_ := offertoryref09_Same.keepB BK230 hb; have n1_ := Aside0.mk (below_step (by repeat (first | (with_reducible first | exact HB.out | apply below_alloc | apply pw_below_drewN | apply below_drew1 | refine below_set ?_ GE230.out) | exact HB.out)) hb); have n2_ := Aside0.mk (hbox); have n3_ := Aside0.mk ((by rw [hg]; exact (below_size (by repeat (first | (with_reducible first | exact HB.out | apply below_alloc | apply pw_below_drewN | apply below_drew1 | refine below_set ?_ GE230.out) | exact HB.out))) : w.heap.size ≤ gb231)); have n4_ := Aside0.mk ((by rw [hg]; exact (below_size (by repeat (first | (with_reducible first | exact HB.out | apply below_alloc | apply pw_below_drewN | apply below_drew1 | refine below_set ?_ GE230.out) | exact HB.out))) : w.heap.size ≤ gb231)); have n5_ := offertoryref09_Same.neL BK230 hg; have n6_ := offertoryref09_Same.neG BK230 hg; clear BK230; clear HB; have BK230 := n0_; have HB := n1_; have BK231 := n2_; have GW231 := n3_; have GE231 := n4_; have NB230_231 := n5_; have NB231_230 := n6_; clear n0_ n1_ n2_ n3_ n4_ n5_ n6_; clear hb hbox hg; have hnb6 := NB230_231.out; have hnc6 := NB231_230.out; have hcz7_0 : w5.cell? ⟨gb230, 0, none⟩ = some (.slice A0_0 l0_0.length c0_0) := (blk_cell BK230.out 0).trans rfl; have hcz7_1 : w5.cell? ⟨gb230, 1, none⟩ = some (.int .i64 a0_1) := (blk_cell BK230.out 1).trans rfl; have hcz7_2 : w5.cell? ⟨gb230, 2, none⟩ = some (.int .u64 a0_2) := (blk_cell BK230.out 2).trans rfl; have hcz7_3 : w5.cell? ⟨gb230, 3, none⟩ = some (.int .u64 a0_3) := (blk_cell BK230.out 3).trans rfl; have hcz7_4 : w5.cell? ⟨gb230, 4, none⟩ = some (.int .u64 a0_4) := (blk_cell BK230.out 4).trans rfl; have hcz7_5 : w5.cell? ⟨gb230, 5, none⟩ = some (.int .u64 a0_5) := (blk_cell BK230.out 5).trans rfl; have hcz7_6 : w5.cell? ⟨gb230, 6, none⟩ = some (.bool a0_6) := (blk_cell BK230.out 6).trans rfl; have hfz7_0 := blk_frozen BK230.out 0; have hfz7_1 := blk_frozen BK230.out 1; have hfz7_2 := blk_frozen BK230.out 2; have hfz7_3 := blk_frozen BK230.out 3; have hfz7_4 := blk_frozen BK230.out 4; have hfz7_5 := blk_frozen BK230.out 5; have hfz7_6 := blk_frozen BK230.out 6; have hcz8_0 : w5.cell? ⟨gb231, 0, none⟩ = some (.slice A1_0 l1_0.length c1_0) := (blk_cell BK231.out 0).trans rfl; have hcz8_1 : w5.cell? ⟨gb231, 1, none⟩ = some (.int .i64 a1_1) := (blk_cell BK231.out 1).trans rfl; have hcz8_2 : w5.cell? ⟨gb231, 2, none⟩ = some (.int .u64 a1_2) := (blk_cell BK231.out 2).trans rfl; have hcz8_3 : w5.cell? ⟨gb231, 3, none⟩ = some (.int .u64 a1_3) := (blk_cell BK231.out 3).trans rfl; have hcz8_4 : w5.cell? ⟨gb231, 4, none⟩ = some (.int .u64 a1_4) := (blk_cell BK231.out 4).trans rfl; have hcz8_5 : w5.cell? ⟨gb231, 5, none⟩ = some (.int .u64 a1_5) := (blk_cell BK231.out 5).trans rfl; have hcz8_6 : w5.cell? ⟨gb231, 6, none⟩ = some (.bool a1_6) := (blk_cell BK231.out 6).trans rfl; have hfz8_0 := blk_frozen BK231.out 0; have hfz8_1 := blk_frozen BK231.out 1; have hfz8_2 := blk_frozen BK231.out 2; have hfz8_3 := blk_frozen BK231.out 3; have hfz8_4 := blk_frozen BK231.out 4; have hfz8_5 := blk_frozen BK231.out 5; have hfz8_6 := blk_frozen BK231.out 6)))
    go_loopg [5] k (fun kq v5 w' => ∃ (x5_1 : Int), v5 = .int .i64 x5_1 ∧ Aside0 (offertoryref09_Same.l0 kq x5_1 l0_0 a0_1 a0_2 a0_3 a0_4 a0_5 a0_6 l1_0 a1_1 a1_2 a1_3 a1_4 a1_5 a1_6 = some r) ∧ Aside0 (kq ≤ k) ∧ Aside0 (w'.heap[gb230]? = some (.cells #[(.slice A0_0 l0_0.length c0_0), .int .i64 a0_1, .int .u64 a0_2, .int .u64 a0_3, .int .u64 a0_4, .int .u64 a0_5, .bool a0_6] 29 (0, 0))) ∧ Aside0 (w'.heap[gb231]? = some (.cells #[(.slice A1_0 l1_0.length c1_0), .int .i64 a1_1, .int .u64 a1_2, .int .u64 a1_3, .int .u64 a1_4, .int .u64 a1_5, .bool a1_6] 29 (0, 0))) ∧ Aside0 (Below w.heap.size w w'))
    case atStart => exact ⟨(0), (by first | rfl | (simp; done) | (simp [*]; done)), H', ⟨Nat.le_refl _⟩, ⟨by (with_reducible repeat (first | refine blk_drewN ?_ _ | refine blk_drew ?_ | refine blk_alloc ?_ _)); exact BK230.out⟩, ⟨by (with_reducible repeat (first | refine blk_drewN ?_ _ | refine blk_drew ?_ | refine blk_alloc ?_ _)); exact BK231.out⟩, ⟨by repeat (first | (with_reducible first | exact HB.out | apply below_alloc | apply pw_below_drewN | apply below_drew1 | refine below_set ?_ GE230.out | refine below_set ?_ GE231.out) | exact HB.out)⟩⟩
    case round =>
      clear H'
      try clear c1
      try clear p2
      try clear c3
      try clear c3b0
      try clear c3b1
      try clear c3b2
      try clear c6
      try clear hcz7_0
      try clear hcz7_1
      try clear hcz7_2
      try clear hcz7_3
      try clear hcz7_4
      try clear hcz7_5
      try clear hcz7_6
      try clear hcz8_0
      try clear hcz8_1
      try clear hcz8_2
      try clear hcz8_3
      try clear hcz8_4
      try clear hcz8_5
      try clear hcz8_6
      try clear hfz7_0
      try clear hfz7_1
      try clear hfz7_2
      try clear hfz7_3
      try clear hfz7_4
      try clear hfz7_5
      try clear hfz7_6
      try clear hfz8_0
      try clear hfz8_1
      try clear hfz8_2
      try clear hfz8_3
      try clear hfz8_4
      try clear hfz8_5
      try clear hfz8_6
      obtain ⟨x5_1, rfl, HA, HK1, BK230, BK231, HB⟩ := hrel
      cases gk with
      | zero => exact absurd HA.out (by simp [offertoryref09_Same.l0])
      | succ k1 =>
        have H := HA.out
        clear HA
        simp only [offertoryref09_Same.l0] at H
        by_cases c9 : x5_1 < (l0_0.length : Int)
        · rw [if_pos c9] at H
          have c9b0 : decide (x5_1 < (l0_0.length : Int)) = true := decide_eq_true c9
          clear c9
          by_cases c10 : 0 ≤ x5_1
          · rw [if_pos c10] at H
            have c10b0 : decide (0 ≤ x5_1) = true := decide_eq_true c10
            clear c10
            by_cases c11 : x5_1 < (l1_0.length : Int)
            · rw [if_pos c11] at H
              have c11b0 : decide (x5_1 < (l1_0.length : Int)) = true := decide_eq_true c11
              clear c11
              by_cases c12 : (rd l0_0 x5_1) = (rd l1_0 x5_1)
              · rw [if_pos c12] at H
                have c12b0 : ((rd l0_0 x5_1) == (rd l1_0 x5_1)) = true := beq_iff_eq.mpr c12
                have c12b1 : ((rd l0_0 x5_1) != (rd l1_0 x5_1)) = false := bne_eq_false_iff_eq.mpr c12
                clear c12
                have H' := Aside0.mk H
                clear H
                have hnb13 := NB230_231.out
                have hnc13 := NB231_230.out
                have hcz14_0 : wr.cell? ⟨gb230, 0, none⟩ = some (.slice A0_0 l0_0.length c0_0) := (blk_cell BK230.out 0).trans rfl
                have hcz14_1 : wr.cell? ⟨gb230, 1, none⟩ = some (.int .i64 a0_1) := (blk_cell BK230.out 1).trans rfl
                have hcz14_2 : wr.cell? ⟨gb230, 2, none⟩ = some (.int .u64 a0_2) := (blk_cell BK230.out 2).trans rfl
                have hcz14_3 : wr.cell? ⟨gb230, 3, none⟩ = some (.int .u64 a0_3) := (blk_cell BK230.out 3).trans rfl
                have hcz14_4 : wr.cell? ⟨gb230, 4, none⟩ = some (.int .u64 a0_4) := (blk_cell BK230.out 4).trans rfl
                have hcz14_5 : wr.cell? ⟨gb230, 5, none⟩ = some (.int .u64 a0_5) := (blk_cell BK230.out 5).trans rfl
                have hcz14_6 : wr.cell? ⟨gb230, 6, none⟩ = some (.bool a0_6) := (blk_cell BK230.out 6).trans rfl
                have hfz14_0 := blk_frozen BK230.out 0
                have hfz14_1 := blk_frozen BK230.out 1
                have hfz14_2 := blk_frozen BK230.out 2
                have hfz14_3 := blk_frozen BK230.out 3
                have hfz14_4 := blk_frozen BK230.out 4
                have hfz14_5 := blk_frozen BK230.out 5
                have hfz14_6 := blk_frozen BK230.out 6
                have p232 : 0 ≤ (x5_1 : Int) := of_decide_eq_true (by first | (with_reducible assumption) | assumption)
                have q232 : x5_1 < (l0_0.length : Int) := of_decide_eq_true (by first | (with_reducible assumption) | assumption)
                obtain ⟨ad232, e232, hx232_0⟩ := Kd.at_int HR0_0.out x5_1 p232 q232
                cases e232
                replace hx232_0 := (HB.out.cell (World.block_lt_of_cell? w _ hx232_0)).trans hx232_0
                replace p232 := eq_true p232
                replace q232 := eq_true q232
                have hcz15_0 : wr.cell? ⟨gb231, 0, none⟩ = some (.slice A1_0 l1_0.length c1_0) := (blk_cell BK231.out 0).trans rfl
                have hcz15_1 : wr.cell? ⟨gb231, 1, none⟩ = some (.int .i64 a1_1) := (blk_cell BK231.out 1).trans rfl
                have hcz15_2 : wr.cell? ⟨gb231, 2, none⟩ = some (.int .u64 a1_2) := (blk_cell BK231.out 2).trans rfl
                have hcz15_3 : wr.cell? ⟨gb231, 3, none⟩ = some (.int .u64 a1_3) := (blk_cell BK231.out 3).trans rfl
                have hcz15_4 : wr.cell? ⟨gb231, 4, none⟩ = some (.int .u64 a1_4) := (blk_cell BK231.out 4).trans rfl
                have hcz15_5 : wr.cell? ⟨gb231, 5, none⟩ = some (.int .u64 a1_5) := (blk_cell BK231.out 5).trans rfl
                have hcz15_6 : wr.cell? ⟨gb231, 6, none⟩ = some (.bool a1_6) := (blk_cell BK231.out 6).trans rfl
                have hfz15_0 := blk_frozen BK231.out 0
                have hfz15_1 := blk_frozen BK231.out 1
                have hfz15_2 := blk_frozen BK231.out 2
                have hfz15_3 := blk_frozen BK231.out 3
                have hfz15_4 := blk_frozen BK231.out 4
                have hfz15_5 := blk_frozen BK231.out 5
                have hfz15_6 := blk_frozen BK231.out 6
                have p233 : 0 ≤ (x5_1 : Int) := of_decide_eq_true (by first | (with_reducible assumption) | assumption)
                have q233 : x5_1 < (l1_0.length : Int) := of_decide_eq_true (by first | (with_reducible assumption) | assumption)
                obtain ⟨ad233, e233, hx233_0⟩ := Kd.at_int HR1_0.out x5_1 p233 q233
                cases e233
                replace hx233_0 := (HB.out.cell (World.block_lt_of_cell? w _ hx233_0)).trans hx233_0
                replace p233 := eq_true p233
                replace q233 := eq_true q233
                go_wp2
                repeat (go_quiet (fail); try go_wp2)
                go_roundg k1
                case measure => have := HK1.out; omega
                case rel => exact ⟨(wrap64 (x5_1 + 1)), (by first | rfl | (simp; done) | (simp [*]; done)), H', ⟨by have := HK1.out; omega⟩, ⟨by (with_reducible repeat (first | refine blk_drewN ?_ _ | refine blk_drew ?_ | refine blk_alloc ?_ _)); exact BK230.out⟩, ⟨by (with_reducible repeat (first | refine blk_drewN ?_ _ | refine blk_drew ?_ | refine blk_alloc ?_ _)); exact BK231.out⟩, ⟨by repeat (first | (with_reducible first | exact HB.out | apply below_alloc | apply pw_below_drewN | apply below_drew1 | refine below_set ?_ GE230.out | refine below_set ?_ GE231.out) | exact HB.out)⟩⟩
              · rw [if_neg c12] at H
                have c12b0 : ((rd l0_0 x5_1) == (rd l1_0 x5_1)) = false := beq_eq_false_iff_ne.mpr c12
                have c12b1 : ((rd l0_0 x5_1) != (rd l1_0 x5_1)) = true := bne_iff_ne.mpr c12
                obtain rfl := Option.some.inj H
                have hnb16 := NB230_231.out
                have hnc16 := NB231_230.out
                have hcz17_0 : wr.cell? ⟨gb230, 0, none⟩ = some (.slice A0_0 l0_0.length c0_0) := (blk_cell BK230.out 0).trans rfl
                have hcz17_1 : wr.cell? ⟨gb230, 1, none⟩ = some (.int .i64 a0_1) := (blk_cell BK230.out 1).trans rfl
                have hcz17_2 : wr.cell? ⟨gb230, 2, none⟩ = some (.int .u64 a0_2) := (blk_cell BK230.out 2).trans rfl
                have hcz17_3 : wr.cell? ⟨gb230, 3, none⟩ = some (.int .u64 a0_3) := (blk_cell BK230.out 3).trans rfl
                have hcz17_4 : wr.cell? ⟨gb230, 4, none⟩ = some (.int .u64 a0_4) := (blk_cell BK230.out 4).trans rfl
                have hcz17_5 : wr.cell? ⟨gb230, 5, none⟩ = some (.int .u64 a0_5) := (blk_cell BK230.out 5).trans rfl
                have hcz17_6 : wr.cell? ⟨gb230, 6, none⟩ = some (.bool a0_6) := (blk_cell BK230.out 6).trans rfl
                have hfz17_0 := blk_frozen BK230.out 0
                have hfz17_1 := blk_frozen BK230.out 1
                have hfz17_2 := blk_frozen BK230.out 2
                have hfz17_3 := blk_frozen BK230.out 3
                have hfz17_4 := blk_frozen BK230.out 4
                have hfz17_5 := blk_frozen BK230.out 5
                have hfz17_6 := blk_frozen BK230.out 6
                have p232 : 0 ≤ (x5_1 : Int) := of_decide_eq_true (by first | (with_reducible assumption) | assumption)
                have q232 : x5_1 < (l0_0.length : Int) := of_decide_eq_true (by first | (with_reducible assumption) | assumption)
                obtain ⟨ad232, e232, hx232_0⟩ := Kd.at_int HR0_0.out x5_1 p232 q232
                cases e232
                replace hx232_0 := (HB.out.cell (World.block_lt_of_cell? w _ hx232_0)).trans hx232_0
                replace p232 := eq_true p232
                replace q232 := eq_true q232
                have hcz18_0 : wr.cell? ⟨gb231, 0, none⟩ = some (.slice A1_0 l1_0.length c1_0) := (blk_cell BK231.out 0).trans rfl
                have hcz18_1 : wr.cell? ⟨gb231, 1, none⟩ = some (.int .i64 a1_1) := (blk_cell BK231.out 1).trans rfl
                have hcz18_2 : wr.cell? ⟨gb231, 2, none⟩ = some (.int .u64 a1_2) := (blk_cell BK231.out 2).trans rfl
                have hcz18_3 : wr.cell? ⟨gb231, 3, none⟩ = some (.int .u64 a1_3) := (blk_cell BK231.out 3).trans rfl
                have hcz18_4 : wr.cell? ⟨gb231, 4, none⟩ = some (.int .u64 a1_4) := (blk_cell BK231.out 4).trans rfl
                have hcz18_5 : wr.cell? ⟨gb231, 5, none⟩ = some (.int .u64 a1_5) := (blk_cell BK231.out 5).trans rfl
                have hcz18_6 : wr.cell? ⟨gb231, 6, none⟩ = some (.bool a1_6) := (blk_cell BK231.out 6).trans rfl
                have hfz18_0 := blk_frozen BK231.out 0
                have hfz18_1 := blk_frozen BK231.out 1
                have hfz18_2 := blk_frozen BK231.out 2
                have hfz18_3 := blk_frozen BK231.out 3
                have hfz18_4 := blk_frozen BK231.out 4
                have hfz18_5 := blk_frozen BK231.out 5
                have hfz18_6 := blk_frozen BK231.out 6
                have p233 : 0 ≤ (x5_1 : Int) := of_decide_eq_true (by first | (with_reducible assumption) | assumption)
                have q233 : x5_1 < (l1_0.length : Int) := of_decide_eq_true (by first | (with_reducible assumption) | assumption)
                obtain ⟨ad233, e233, hx233_0⟩ := Kd.at_int HR1_0.out x5_1 p233 q233
                cases e233
                replace hx233_0 := (HB.out.cell (World.block_lt_of_cell? w _ hx233_0)).trans hx233_0
                replace p233 := eq_true p233
                replace q233 := eq_true q233
                go_wp2
                repeat (go_quiet (fail); try go_wp2)
                go_ret
                exact ⟨by first | rfl | (simp [errW_none, errW_some] <;> rfl) | (simp [*, errW_none, errW_some] <;> rfl), by repeat (first | (with_reducible first | exact HB.out | apply below_alloc | apply pw_below_drewN | apply below_drew1 | refine below_set ?_ GE230.out | refine below_set ?_ GE231.out) | exact HB.out)⟩
            · rw [if_neg c11] at H
              exact absurd H (by simp)
          · rw [if_neg c10] at H
            exact absurd H (by simp)
        · rw [if_neg c9] at H
          have c9b0 : decide (x5_1 < (l0_0.length : Int)) = false := decide_eq_false c9
          clear c9
          by_cases c19 : a0_1 = a1_1
          · rw [if_pos c19] at H
            have c19b0 : (a0_1 == a1_1) = true := beq_iff_eq.mpr c19
            have c19b1 : (a0_1 != a1_1) = false := bne_eq_false_iff_eq.mpr c19
            clear c19
            by_cases c20 : (a0_2 == a1_2 && (a0_3 == a1_3)) = true
            · rw [if_pos c20] at H
              have c20b0 : (a0_2 == a1_2 && (a0_3 == a1_3)) = true := c20
              (try (have c20b1 : decide (a0_2 = a1_2 && (a0_3 == a1_3)) = true := by first | decide | simpa using c20))
              (try (have c20b2 : (a0_2 == a1_2 && (a0_3 == a1_3)) = true := by first | decide | simpa using c20))
              clear c20
              by_cases c21 : (a0_4 == a1_4 && (a0_5 == a1_5)) = true
              · rw [if_pos c21] at H
                have c21b0 : (a0_4 == a1_4 && (a0_5 == a1_5)) = true := c21
                (try (have c21b1 : decide (a0_4 = a1_4 && (a0_5 == a1_5)) = true := by first | decide | simpa using c21))
                (try (have c21b2 : (a0_4 == a1_4 && (a0_5 == a1_5)) = true := by first | decide | simpa using c21))
                clear c21
                obtain rfl := Option.some.inj H
                have hnb22 := NB230_231.out
                have hnc22 := NB231_230.out
                have hcz23_0 : wr.cell? ⟨gb230, 0, none⟩ = some (.slice A0_0 l0_0.length c0_0) := (blk_cell BK230.out 0).trans rfl
                have hcz23_1 : wr.cell? ⟨gb230, 1, none⟩ = some (.int .i64 a0_1) := (blk_cell BK230.out 1).trans rfl
                have hcz23_2 : wr.cell? ⟨gb230, 2, none⟩ = some (.int .u64 a0_2) := (blk_cell BK230.out 2).trans rfl
                have hcz23_3 : wr.cell? ⟨gb230, 3, none⟩ = some (.int .u64 a0_3) := (blk_cell BK230.out 3).trans rfl
                have hcz23_4 : wr.cell? ⟨gb230, 4, none⟩ = some (.int .u64 a0_4) := (blk_cell BK230.out 4).trans rfl
                have hcz23_5 : wr.cell? ⟨gb230, 5, none⟩ = some (.int .u64 a0_5) := (blk_cell BK230.out 5).trans rfl
                have hcz23_6 : wr.cell? ⟨gb230, 6, none⟩ = some (.bool a0_6) := (blk_cell BK230.out 6).trans rfl
                have hfz23_0 := blk_frozen BK230.out 0
                have hfz23_1 := blk_frozen BK230.out 1
                have hfz23_2 := blk_frozen BK230.out 2
                have hfz23_3 := blk_frozen BK230.out 3
                have hfz23_4 := blk_frozen BK230.out 4
                have hfz23_5 := blk_frozen BK230.out 5
                have hfz23_6 := blk_frozen BK230.out 6
                have hcz24_0 : wr.cell? ⟨gb231, 0, none⟩ = some (.slice A1_0 l1_0.length c1_0) := (blk_cell BK231.out 0).trans rfl
                have hcz24_1 : wr.cell? ⟨gb231, 1, none⟩ = some (.int .i64 a1_1) := (blk_cell BK231.out 1).trans rfl
                have hcz24_2 : wr.cell? ⟨gb231, 2, none⟩ = some (.int .u64 a1_2) := (blk_cell BK231.out 2).trans rfl
                have hcz24_3 : wr.cell? ⟨gb231, 3, none⟩ = some (.int .u64 a1_3) := (blk_cell BK231.out 3).trans rfl
                have hcz24_4 : wr.cell? ⟨gb231, 4, none⟩ = some (.int .u64 a1_4) := (blk_cell BK231.out 4).trans rfl
                have hcz24_5 : wr.cell? ⟨gb231, 5, none⟩ = some (.int .u64 a1_5) := (blk_cell BK231.out 5).trans rfl
                have hcz24_6 : wr.cell? ⟨gb231, 6, none⟩ = some (.bool a1_6) := (blk_cell BK231.out 6).trans rfl
                have hfz24_0 := blk_frozen BK231.out 0
                have hfz24_1 := blk_frozen BK231.out 1
                have hfz24_2 := blk_frozen BK231.out 2
                have hfz24_3 := blk_frozen BK231.out 3
                have hfz24_4 := blk_frozen BK231.out 4
                have hfz24_5 := blk_frozen BK231.out 5
                have hfz24_6 := blk_frozen BK231.out 6
                go_wp2
                repeat (go_quiet (fail); try go_wp2)
                go_ret
                exact ⟨by first | rfl | (simp [errW_none, errW_some] <;> rfl) | (simp [*, errW_none, errW_some] <;> rfl), by repeat (first | (with_reducible first | exact HB.out | apply below_alloc | apply pw_below_drewN | apply below_drew1 | refine below_set ?_ GE230.out | refine below_set ?_ GE231.out) | exact HB.out)⟩
              · rw [if_neg c21] at H
                have c21b0 : (a0_4 == a1_4 && (a0_5 == a1_5)) = false := by simpa using c21
                (try (have c21b1 : decide (a0_4 = a1_4 && (a0_5 == a1_5)) = false := by first | decide | simpa using c21))
                (try (have c21b2 : (a0_4 == a1_4 && (a0_5 == a1_5)) = false := by first | decide | simpa using c21))
                (try (have c21b3 : ¬ (a0_4 = a1_4 && (a0_5 == a1_5)) := by simpa using c21))
                clear c21
                obtain rfl := Option.some.inj H
                have hnb25 := NB230_231.out
                have hnc25 := NB231_230.out
                have hcz26_0 : wr.cell? ⟨gb230, 0, none⟩ = some (.slice A0_0 l0_0.length c0_0) := (blk_cell BK230.out 0).trans rfl
                have hcz26_1 : wr.cell? ⟨gb230, 1, none⟩ = some (.int .i64 a0_1) := (blk_cell BK230.out 1).trans rfl
                have hcz26_2 : wr.cell? ⟨gb230, 2, none⟩ = some (.int .u64 a0_2) := (blk_cell BK230.out 2).trans rfl
                have hcz26_3 : wr.cell? ⟨gb230, 3, none⟩ = some (.int .u64 a0_3) := (blk_cell BK230.out 3).trans rfl
                have hcz26_4 : wr.cell? ⟨gb230, 4, none⟩ = some (.int .u64 a0_4) := (blk_cell BK230.out 4).trans rfl
                have hcz26_5 : wr.cell? ⟨gb230, 5, none⟩ = some (.int .u64 a0_5) := (blk_cell BK230.out 5).trans rfl
                have hcz26_6 : wr.cell? ⟨gb230, 6, none⟩ = some (.bool a0_6) := (blk_cell BK230.out 6).trans rfl
                have hfz26_0 := blk_frozen BK230.out 0
                have hfz26_1 := blk_frozen BK230.out 1
                have hfz26_2 := blk_frozen BK230.out 2
                have hfz26_3 := blk_frozen BK230.out 3
                have hfz26_4 := blk_frozen BK230.out 4
                have hfz26_5 := blk_frozen BK230.out 5
                have hfz26_6 := blk_frozen BK230.out 6
                have hcz27_0 : wr.cell? ⟨gb231, 0, none⟩ = some (.slice A1_0 l1_0.length c1_0) := (blk_cell BK231.out 0).trans rfl
                have hcz27_1 : wr.cell? ⟨gb231, 1, none⟩ = some (.int .i64 a1_1) := (blk_cell BK231.out 1).trans rfl
                have hcz27_2 : wr.cell? ⟨gb231, 2, none⟩ = some (.int .u64 a1_2) := (blk_cell BK231.out 2).trans rfl
                have hcz27_3 : wr.cell? ⟨gb231, 3, none⟩ = some (.int .u64 a1_3) := (blk_cell BK231.out 3).trans rfl
                have hcz27_4 : wr.cell? ⟨gb231, 4, none⟩ = some (.int .u64 a1_4) := (blk_cell BK231.out 4).trans rfl
                have hcz27_5 : wr.cell? ⟨gb231, 5, none⟩ = some (.int .u64 a1_5) := (blk_cell BK231.out 5).trans rfl
                have hcz27_6 : wr.cell? ⟨gb231, 6, none⟩ = some (.bool a1_6) := (blk_cell BK231.out 6).trans rfl
                have hfz27_0 := blk_frozen BK231.out 0
                have hfz27_1 := blk_frozen BK231.out 1
                have hfz27_2 := blk_frozen BK231.out 2
                have hfz27_3 := blk_frozen BK231.out 3
                have hfz27_4 := blk_frozen BK231.out 4
                have hfz27_5 := blk_frozen BK231.out 5
                have hfz27_6 := blk_frozen BK231.out 6
                go_wp2
                repeat (go_quiet (fail); try go_wp2)
                go_ret
                exact ⟨by first | rfl | (simp [errW_none, errW_some] <;> rfl) | (simp [*, errW_none, errW_some] <;> rfl), by repeat (first | (with_reducible first | exact HB.out | apply below_alloc | apply pw_below_drewN | apply below_drew1 | refine below_set ?_ GE230.out | refine below_set ?_ GE231.out) | exact HB.out)⟩
            · rw [if_neg c20] at H
              have c20b0 : (a0_2 == a1_2 && (a0_3 == a1_3)) = false := by simpa using c20
              (try (have c20b1 : decide (a0_2 = a1_2 && (a0_3 == a1_3)) = false := by first | decide | simpa using c20))
              (try (have c20b2 : (a0_2 == a1_2 && (a0_3 == a1_3)) = false := by first | decide | simpa using c20))
              (try (have c20b3 : ¬ (a0_2 = a1_2 && (a0_3 == a1_3)) := by simpa using c20))
              clear c20
              obtain rfl := Option.some.inj H
              have hnb28 := NB230_231.out
              have hnc28 := NB231_230.out
              have hcz29_0 : wr.cell? ⟨gb230, 0, none⟩ = some (.slice A0_0 l0_0.length c0_0) := (blk_cell BK230.out 0).trans rfl
              have hcz29_1 : wr.cell? ⟨gb230, 1, none⟩ = some (.int .i64 a0_1) := (blk_cell BK230.out 1).trans rfl
              have hcz29_2 : wr.cell? ⟨gb230, 2, none⟩ = some (.int .u64 a0_2) := (blk_cell BK230.out 2).trans rfl
              have hcz29_3 : wr.cell? ⟨gb230, 3, none⟩ = some (.int .u64 a0_3) := (blk_cell BK230.out 3).trans rfl
              have hcz29_4 : wr.cell? ⟨gb230, 4, none⟩ = some (.int .u64 a0_4) := (blk_cell BK230.out 4).trans rfl
              have hcz29_5 : wr.cell? ⟨gb230, 5, none⟩ = some (.int .u64 a0_5) := (blk_cell BK230.out 5).trans rfl
              have hcz29_6 : wr.cell? ⟨gb230, 6, none⟩ = some (.bool a0_6) := (blk_cell BK230.out 6).trans rfl
              have hfz29_0 := blk_frozen BK230.out 0
              have hfz29_1 := blk_frozen BK230.out 1
              have hfz29_2 := blk_frozen BK230.out 2
              have hfz29_3 := blk_frozen BK230.out 3
              have hfz29_4 := blk_frozen BK230.out 4
              have hfz29_5 := blk_frozen BK230.out 5
              have hfz29_6 := blk_frozen BK230.out 6
              have hcz30_0 : wr.cell? ⟨gb231, 0, none⟩ = some (.slice A1_0 l1_0.length c1_0) := (blk_cell BK231.out 0).trans rfl
              have hcz30_1 : wr.cell? ⟨gb231, 1, none⟩ = some (.int .i64 a1_1) := (blk_cell BK231.out 1).trans rfl
              have hcz30_2 : wr.cell? ⟨gb231, 2, none⟩ = some (.int .u64 a1_2) := (blk_cell BK231.out 2).trans rfl
              have hcz30_3 : wr.cell? ⟨gb231, 3, none⟩ = some (.int .u64 a1_3) := (blk_cell BK231.out 3).trans rfl
              have hcz30_4 : wr.cell? ⟨gb231, 4, none⟩ = some (.int .u64 a1_4) := (blk_cell BK231.out 4).trans rfl
              have hcz30_5 : wr.cell? ⟨gb231, 5, none⟩ = some (.int .u64 a1_5) := (blk_cell BK231.out 5).trans rfl
              have hcz30_6 : wr.cell? ⟨gb231, 6, none⟩ = some (.bool a1_6) := (blk_cell BK231.out 6).trans rfl
              have hfz30_0 := blk_frozen BK231.out 0
              have hfz30_1 := blk_frozen BK231.out 1
              have hfz30_2 := blk_frozen BK231.out 2
              have hfz30_3 := blk_frozen BK231.out 3
              have hfz30_4 := blk_frozen BK231.out 4
              have hfz30_5 := blk_frozen BK231.out 5
              have hfz30_6 := blk_frozen BK231.out 6
              go_wp2
              repeat (go_quiet (fail); try go_wp2)
              go_ret
              exact ⟨by first | rfl | (simp [errW_none, errW_some] <;> rfl) | (simp [*, errW_none, errW_some] <;> rfl), by repeat (first | (with_reducible first | exact HB.out | apply below_alloc | apply pw_below_drewN | apply below_drew1 | refine below_set ?_ GE230.out | refine below_set ?_ GE231.out) | exact HB.out)⟩
          · rw [if_neg c19] at H
            have c19b0 : (a0_1 == a1_1) = false := beq_eq_false_iff_ne.mpr c19
            have c19b1 : (a0_1 != a1_1) = true := bne_iff_ne.mpr c19
            obtain rfl := Option.some.inj H
            have hnb31 := NB230_231.out
            have hnc31 := NB231_230.out
            have hcz32_0 : wr.cell? ⟨gb230, 0, none⟩ = some (.slice A0_0 l0_0.length c0_0) := (blk_cell BK230.out 0).trans rfl
            have hcz32_1 : wr.cell? ⟨gb230, 1, none⟩ = some (.int .i64 a0_1) := (blk_cell BK230.out 1).trans rfl
            have hcz32_2 : wr.cell? ⟨gb230, 2, none⟩ = some (.int .u64 a0_2) := (blk_cell BK230.out 2).trans rfl
            have hcz32_3 : wr.cell? ⟨gb230, 3, none⟩ = some (.int .u64 a0_3) := (blk_cell BK230.out 3).trans rfl
            have hcz32_4 : wr.cell? ⟨gb230, 4, none⟩ = some (.int .u64 a0_4) := (blk_cell BK230.out 4).trans rfl
            have hcz32_5 : wr.cell? ⟨gb230, 5, none⟩ = some (.int .u64 a0_5) := (blk_cell BK230.out 5).trans rfl
            have hcz32_6 : wr.cell? ⟨gb230, 6, none⟩ = some (.bool a0_6) := (blk_cell BK230.out 6).trans rfl
            have hfz32_0 := blk_frozen BK230.out 0
            have hfz32_1 := blk_frozen BK230.out 1
            have hfz32_2 := blk_frozen BK230.out 2
            have hfz32_3 := blk_frozen BK230.out 3
            have hfz32_4 := blk_frozen BK230.out 4
            have hfz32_5 := blk_frozen BK230.out 5
            have hfz32_6 := blk_frozen BK230.out 6
            have hcz33_0 : wr.cell? ⟨gb231, 0, none⟩ = some (.slice A1_0 l1_0.length c1_0) := (blk_cell BK231.out 0).trans rfl
            have hcz33_1 : wr.cell? ⟨gb231, 1, none⟩ = some (.int .i64 a1_1) := (blk_cell BK231.out 1).trans rfl
            have hcz33_2 : wr.cell? ⟨gb231, 2, none⟩ = some (.int .u64 a1_2) := (blk_cell BK231.out 2).trans rfl
            have hcz33_3 : wr.cell? ⟨gb231, 3, none⟩ = some (.int .u64 a1_3) := (blk_cell BK231.out 3).trans rfl
            have hcz33_4 : wr.cell? ⟨gb231, 4, none⟩ = some (.int .u64 a1_4) := (blk_cell BK231.out 4).trans rfl
            have hcz33_5 : wr.cell? ⟨gb231, 5, none⟩ = some (.int .u64 a1_5) := (blk_cell BK231.out 5).trans rfl
            have hcz33_6 : wr.cell? ⟨gb231, 6, none⟩ = some (.bool a1_6) := (blk_cell BK231.out 6).trans rfl
            have hfz33_0 := blk_frozen BK231.out 0
            have hfz33_1 := blk_frozen BK231.out 1
            have hfz33_2 := blk_frozen BK231.out 2
            have hfz33_3 := blk_frozen BK231.out 3
            have hfz33_4 := blk_frozen BK231.out 4
            have hfz33_5 := blk_frozen BK231.out 5
            have hfz33_6 := blk_frozen BK231.out 6
            go_wp2
            repeat (go_quiet (fail); try go_wp2)
            go_ret
            exact ⟨by first | rfl | (simp [errW_none, errW_some] <;> rfl) | (simp [*, errW_none, errW_some] <;> rfl), by repeat (first | (with_reducible first | exact HB.out | apply below_alloc | apply pw_below_drewN | apply below_drew1 | refine below_set ?_ GE230.out | refine below_set ?_ GE231.out) | exact HB.out)⟩
  · rw [if_neg c3] at H
    have c3b0 : ((l0_0.length : Int) == (l1_0.length : Int)) = false := beq_eq_false_iff_ne.mpr c3
    have c3b1 : ((l0_0.length : Int) != (l1_0.length : Int)) = true := bne_iff_ne.mpr c3
    have c3b2 : (l0_0.length == l1_0.length) = false := by first | simpa using c3 | (simp at c3 ⊢; omega)
    obtain rfl := Option.some.inj H
    go_enter Try.func11, Try.ntmps11
    go_wp2_with (first | ((with_reducible refine gate_dst (N := 2) rfl ?_); refine box_event ?hg (N := 2) ?hd (cs := #[.slice A0_0 l0_0.length c0_0, .int .i64 a0_1, .int .u64 a0_2, .int .u64 a0_3, .int .u64 a0_4, .int .u64 a0_5, .bool a0_6]) (t := 29) ?hr ?_; (case hd => rfl); (case hg => rfl); (case hr => first | (go_simp; done) | (go_simp; rfl)); intro gb230 hg w34 hbox hb; have n0_ := Aside0.mk (below_step (by repeat (first | (with_reducible first | exact HB.out | apply below_alloc | apply pw_below_drewN | apply below_drew1) | exact HB.out)) hb); have n1_ := Aside0.mk (hbox); have n2_ := Aside0.mk ((by rw [hg]; exact (below_size (by repeat (first | (with_reducible first | exact HB.out | apply below_alloc | apply pw_below_drewN | apply below_drew1) | exact HB.out))) : w.heap.size ≤ gb230)); have n3_ := Aside0.mk ((by rw [hg]; exact (below_size (by repeat (first | (with_reducible first | exact HB.out | apply below_alloc | apply pw_below_drewN | apply below_drew1) | exact HB.out))) : w.heap.size ≤ gb230)); clear HB; have HB := n0_; have BK230 := n1_; have GW230 := n2_; have GE230 := n3_; clear n0_ n1_ n2_ n3_; clear hb hbox hg) | ((with_reducible refine gate_dst (N := 3) rfl ?_); refine box_event ?hg (N := 3) ?hd (cs := #[.slice A1_0 l1_0.length c1_0, .int .i64 a1_1, .int .u64 a1_2, .int .u64 a1_3, .int .u64 a1_4, .int .u64 a1_5, .bool a1_6]) (t := 29) ?hr ?_; (case hd => rfl); (case hg => rfl); (case hr => first | (go_simp; done) | (go_simp; rfl)); intro gb231 hg w35 hbox hb; have n0_ := offertoryref09_Same.keepB BK230 hb; have n1_ := Aside0.mk (below_step (by repeat (first | (with_reducible first | exact HB.out | apply below_alloc | apply pw_below_drewN | apply below_drew1 | refine below_set ?_ GE230.out) | exact HB.out)) hb); have n2_ := Aside0.mk (hbox); have n3_ := Aside0.mk ((by rw [hg]; exact (below_size (by repeat (first | (with_reducible first | exact HB.out | apply below_alloc | apply pw_below_drewN | apply below_drew1 | refine below_set ?_ GE230.out) | exact HB.out))) : w.heap.size ≤ gb231)); have n4_ := Aside0.mk ((by rw [hg]; exact (below_size (by repeat (first | (with_reducible first | exact HB.out | apply below_alloc | apply pw_below_drewN | apply below_drew1 | refine below_set ?_ GE230.out) | exact HB.out))) : w.heap.size ≤ gb231)); have n5_ := offertoryref09_Same.neL BK230 hg; have n6_ := offertoryref09_Same.neG BK230 hg; clear BK230; clear HB; have BK230 := n0_; have HB := n1_; have BK231 := n2_; have GW231 := n3_; have GE231 := n4_; have NB230_231 := n5_; have NB231_230 := n6_; clear n0_ n1_ n2_ n3_ n4_ n5_ n6_; clear hb hbox hg; have hnb36 := NB230_231.out; have hnc36 := NB231_230.out; have hcz37_0 : w35.cell? ⟨gb230, 0, none⟩ = some (.slice A0_0 l0_0.length c0_0) := (blk_cell BK230.out 0).trans rfl; have hcz37_1 : w35.cell? ⟨gb230, 1, none⟩ = some (.int .i64 a0_1) := (blk_cell BK230.out 1).trans rfl; have hcz37_2 : w35.cell? ⟨gb230, 2, none⟩ = some (.int .u64 a0_2) := (blk_cell BK230.out 2).trans rfl; have hcz37_3 : w35.cell? ⟨gb230, 3, none⟩ = some (.int .u64 a0_3) := (blk_cell BK230.out 3).trans rfl; have hcz37_4 : w35.cell? ⟨gb230, 4, none⟩ = some (.int .u64 a0_4) := (blk_cell BK230.out 4).trans rfl; have hcz37_5 : w35.cell? ⟨gb230, 5, none⟩ = some (.int .u64 a0_5) := (blk_cell BK230.out 5).trans rfl; have hcz37_6 : w35.cell? ⟨gb230, 6, none⟩ = some (.bool a0_6) := (blk_cell BK230.out 6).trans rfl; have hfz37_0 := blk_frozen BK230.out 0; have hfz37_1 := blk_frozen BK230.out 1; have hfz37_2 := blk_frozen BK230.out 2; have hfz37_3 := blk_frozen BK230.out 3; have hfz37_4 := blk_frozen BK230.out 4; have hfz37_5 := blk_frozen BK230.out 5; have hfz37_6 := blk_frozen BK230.out 6; have hcz38_0 : w35.cell? ⟨gb231, 0, none⟩ = some (.slice A1_0 l1_0.length c1_0) := (blk_cell BK231.out 0).trans rfl; have hcz38_1 : w35.cell? ⟨gb231, 1, none⟩ = some (.int .i64 a1_1) := (blk_cell BK231.out 1).trans rfl; have hcz38_2 : w35.cell? ⟨gb231, 2, none⟩ = some (.int .u64 a1_2) := (blk_cell BK231.out 2).trans rfl; have hcz38_3 : w35.cell? ⟨gb231, 3, none⟩ = some (.int .u64 a1_3) := (blk_cell BK231.out 3).trans rfl; have hcz38_4 : w35.cell? ⟨gb231, 4, none⟩ = some (.int .u64 a1_4) := (blk_cell BK231.out 4).trans rfl; have hcz38_5 : w35.cell? ⟨gb231, 5, none⟩ = some (.int .u64 a1_5) := (blk_cell BK231.out 5).trans rfl; have hcz38_6 : w35.cell? ⟨gb231, 6, none⟩ = some (.bool a1_6) := (blk_cell BK231.out 6).trans rfl; have hfz38_0 := blk_frozen BK231.out 0; have hfz38_1 := blk_frozen BK231.out 1; have hfz38_2 := blk_frozen BK231.out 2; have hfz38_3 := blk_frozen BK231.out 3; have hfz38_4 := blk_frozen BK231.out 4; have hfz38_5 := blk_frozen BK231.out 5; have hfz38_6 := blk_frozen BK231.out 6))
    repeat (go_quiet (first | ((with_reducible refine gate_dst (N := 2) rfl ?_); refine box_event ?hg (N := 2) ?hd (cs := #[.slice A0_0 l0_0.length c0_0, .int .i64 a0_1, .int .u64 a0_2, .int .u64 a0_3, .int .u64 a0_4, .int .u64 a0_5, .bool a0_6]) (t := 29) ?hr ?_; (case hd => rfl); (case hg => rfl); (case hr => first | (go_simp; done) | (go_simp; rfl)); intro gb230 hg w34 hbox hb; have n0_ := Aside0.mk (below_step (by repeat (first | (with_reducible first | exact HB.out | apply below_alloc | apply pw_below_drewN | apply below_drew1) | exact HB.out)) hb); have n1_ := Aside0.mk (hbox); have n2_ := Aside0.mk ((by rw [hg]; exact (below_size (by repeat (first | (with_reducible first | exact HB.out | apply below_alloc | apply pw_below_drewN | apply below_drew1) | exact HB.out))) : w.heap.size ≤ gb230)); have n3_ := Aside0.mk ((by rw [hg]; exact (below_size (by repeat (first | (with_reducible first | exact HB.out | apply below_alloc | apply pw_below_drewN | apply below_drew1) | exact HB.out))) : w.heap.size ≤ gb230)); clear HB; have HB := n0_; have BK230 := n1_; have GW230 := n2_; have GE230 := n3_; clear n0_ n1_ n2_ n3_; clear hb hbox hg) | ((with_reducible refine gate_dst (N := 3) rfl ?_); refine box_event ?hg (N := 3) ?hd (cs := #[.slice A1_0 l1_0.length c1_0, .int .i64 a1_1, .int .u64 a1_2, .int .u64 a1_3, .int .u64 a1_4, .int .u64 a1_5, .bool a1_6]) (t := 29) ?hr ?_; (case hd => rfl); (case hg => rfl); (case hr => first | (go_simp; done) | (go_simp; rfl)); intro gb231 hg w35 hbox hb; have n0_ := offertoryref09_Same.keepB BK230 hb; have n1_ := Aside0.mk (below_step (by repeat (first | (with_reducible first | exact HB.out | apply below_alloc | apply pw_below_drewN | apply below_drew1 | refine below_set ?_ GE230.out) | exact HB.out)) hb); have n2_ := Aside0.mk (hbox); have n3_ := Aside0.mk ((by rw [hg]; exact (below_size (by repeat (first | (with_reducible first | exact HB.out | apply below_alloc | apply pw_below_drewN | apply below_drew1 | refine below_set ?_ GE230.out) | exact HB.out))) : w.heap.size ≤ gb231)); have n4_ := Aside0.mk ((by rw [hg]; exact (below_size (by repeat (first | (with_reducible first | exact HB.out | apply below_alloc | apply pw_below_drewN | apply below_drew1 | refine below_set ?_ GE230.out) | exact HB.out))) : w.heap.size ≤ gb231)); have n5_ := offertoryref09_Same.neL BK230 hg; have n6_ := offertoryref09_Same.neG BK230 hg; clear BK230; clear HB; have BK230 := n0_; have HB := n1_; have BK231 := n2_; have GW231 := n3_; have GE231 := n4_; have NB230_231 := n5_; have NB231_230 := n6_; clear n0_ n1_ n2_ n3_ n4_ n5_ n6_; clear hb hbox hg; have hnb36 := NB230_231.out; have hnc36 := NB231_230.out; have hcz37_0 : w35.cell? ⟨gb230, 0, none⟩ = some (.slice A0_0 l0_0.length c0_0) := (blk_cell BK230.out 0).trans rfl; have hcz37_1 : w35.cell? ⟨gb230, 1, none⟩ = some (.int .i64 a0_1) := (blk_cell BK230.out 1).trans rfl; have hcz37_2 : w35.cell? ⟨gb230, 2, none⟩ = some (.int .u64 a0_2) := (blk_cell BK230.out 2).trans rfl; have hcz37_3 : w35.cell? ⟨gb230, 3, none⟩ = some (.int .u64 a0_3) := (blk_cell BK230.out 3).trans rfl; have hcz37_4 : w35.cell? ⟨gb230, 4, none⟩ = some (.int .u64 a0_4) := (blk_cell BK230.out 4).trans rfl; have hcz37_5 : w35.cell? ⟨gb230, 5, none⟩ = some (.int .u64 a0_5) := (blk_cell BK230.out 5).trans rfl; have hcz37_6 : w35.cell? ⟨gb230, 6, none⟩ = some (.bool a0_6) := (blk_cell BK230.out 6).trans rfl; have hfz37_0 := blk_frozen BK230.out 0; have hfz37_1 := blk_frozen BK230.out 1; have hfz37_2 := blk_frozen BK230.out 2; have hfz37_3 := blk_frozen BK230.out 3; have hfz37_4 := blk_frozen BK230.out 4; have hfz37_5 := blk_frozen BK230.out 5; have hfz37_6 := blk_frozen BK230.out 6; have hcz38_0 : w35.cell? ⟨gb231, 0, none⟩ = some (.slice A1_0 l1_0.length c1_0) := (blk_cell BK231.out 0).trans rfl; have hcz38_1 : w35.cell? ⟨gb231, 1, none⟩ = some (.int .i64 a1_1) := (blk_cell BK231.out 1).trans rfl; have hcz38_2 : w35.cell? ⟨gb231, 2, none⟩ = some (.int .u64 a1_2) := (blk_cell BK231.out 2).trans rfl; have hcz38_3 : w35.cell? ⟨gb231, 3, none⟩ = some (.int .u64 a1_3) := (blk_cell BK231.out 3).trans rfl; have hcz38_4 : w35.cell? ⟨gb231, 4, none⟩ = some (.int .u64 a1_4) := (blk_cell BK231.out 4).trans rfl; have hcz38_5 : w35.cell? ⟨gb231, 5, none⟩ = some (.int .u64 a1_5) := (blk_cell BK231.out 5).trans rfl; have hcz38_6 : w35.cell? ⟨gb231, 6, none⟩ = some (.bool a1_6) := (blk_cell BK231.out 6).trans rfl; have hfz38_0 := blk_frozen BK231.out 0; have hfz38_1 := blk_frozen BK231.out 1; have hfz38_2 := blk_frozen BK231.out 2; have hfz38_3 := blk_frozen BK231.out 3; have hfz38_4 := blk_frozen BK231.out 4; have hfz38_5 := blk_frozen BK231.out 5; have hfz38_6 := blk_frozen BK231.out 6)); try go_wp2_with (first | ((with_reducible refine gate_dst (N := 2) rfl ?_); refine box_event ?hg (N := 2) ?hd (cs := #[.slice A0_0 l0_0.length c0_0, .int .i64 a0_1, .int .u64 a0_2, .int .u64 a0_3, .int .u64 a0_4, .int .u64 a0_5, .bool a0_6]) (t := 29) ?hr ?_; (case hd => rfl); (case hg => rfl); (case hr => first | (go_simp; done) | (go_simp; rfl)); intro gb230 hg w34 hbox hb; have n0_ := Aside0.mk (below_step (by repeat (first | (with_reducible first | exact HB.out | apply below_alloc | apply pw_below_drewN | apply below_drew1) | exact HB.out)) hb); have n1_ := Aside0.mk (hbox); have n2_ := Aside0.mk ((by rw [hg]; exact (below_size (by repeat (first | (with_reducible first | exact HB.out | apply below_alloc | apply pw_below_drewN | apply below_drew1) | exact HB.out))) : w.heap.size ≤ gb230)); have n3_ := Aside0.mk ((by rw [hg]; exact (below_size (by repeat (first | (with_reducible first | exact HB.out | apply below_alloc | apply pw_below_drewN | apply below_drew1) | exact HB.out))) : w.heap.size ≤ gb230)); clear HB; have HB := n0_; have BK230 := n1_; have GW230 := n2_; have GE230 := n3_; clear n0_ n1_ n2_ n3_; clear hb hbox hg) | ((with_reducible refine gate_dst (N := 3) rfl ?_); refine box_event ?hg (N := 3) ?hd (cs := #[.slice A1_0 l1_0.length c1_0, .int .i64 a1_1, .int .u64 a1_2, .int .u64 a1_3, .int .u64 a1_4, .int .u64 a1_5, .bool a1_6]) (t := 29) ?hr ?_; (case hd => rfl); (case hg => rfl); (case hr => first | (go_simp; done) | (go_simp; rfl)); intro gb231 hg w35 hbox hb; have n0_ := offertoryref09_Same.keepB BK230 hb; have n1_ := Aside0.mk (below_step (by repeat (first | (with_reducible first | exact HB.out | apply below_alloc | apply pw_below_drewN | apply below_drew1 | refine below_set ?_ GE230.out) | exact HB.out)) hb); have n2_ := Aside0.mk (hbox); have n3_ := Aside0.mk ((by rw [hg]; exact (below_size (by repeat (first | (with_reducible first | exact HB.out | apply below_alloc | apply pw_below_drewN | apply below_drew1 | refine below_set ?_ GE230.out) | exact HB.out))) : w.heap.size ≤ gb231)); have n4_ := Aside0.mk ((by rw [hg]; exact (below_size (by repeat (first | (with_reducible first | exact HB.out | apply below_alloc | apply pw_below_drewN | apply below_drew1 | refine below_set ?_ GE230.out) | exact HB.out))) : w.heap.size ≤ gb231)); have n5_ := offertoryref09_Same.neL BK230 hg; have n6_ := offertoryref09_Same.neG BK230 hg; clear BK230; clear HB; have BK230 := n0_; have HB := n1_; have BK231 := n2_; have GW231 := n3_; have GE231 := n4_; have NB230_231 := n5_; have NB231_230 := n6_; clear n0_ n1_ n2_ n3_ n4_ n5_ n6_; clear hb hbox hg; have hnb36 := NB230_231.out; have hnc36 := NB231_230.out; have hcz37_0 : w35.cell? ⟨gb230, 0, none⟩ = some (.slice A0_0 l0_0.length c0_0) := (blk_cell BK230.out 0).trans rfl; have hcz37_1 : w35.cell? ⟨gb230, 1, none⟩ = some (.int .i64 a0_1) := (blk_cell BK230.out 1).trans rfl; have hcz37_2 : w35.cell? ⟨gb230, 2, none⟩ = some (.int .u64 a0_2) := (blk_cell BK230.out 2).trans rfl; have hcz37_3 : w35.cell? ⟨gb230, 3, none⟩ = some (.int .u64 a0_3) := (blk_cell BK230.out 3).trans rfl; have hcz37_4 : w35.cell? ⟨gb230, 4, none⟩ = some (.int .u64 a0_4) := (blk_cell BK230.out 4).trans rfl; have hcz37_5 : w35.cell? ⟨gb230, 5, none⟩ = some (.int .u64 a0_5) := (blk_cell BK230.out 5).trans rfl; have hcz37_6 : w35.cell? ⟨gb230, 6, none⟩ = some (.bool a0_6) := (blk_cell BK230.out 6).trans rfl; have hfz37_0 := blk_frozen BK230.out 0; have hfz37_1 := blk_frozen BK230.out 1; have hfz37_2 := blk_frozen BK230.out 2; have hfz37_3 := blk_frozen BK230.out 3; have hfz37_4 := blk_frozen BK230.out 4; have hfz37_5 := blk_frozen BK230.out 5; have hfz37_6 := blk_frozen BK230.out 6; have hcz38_0 : w35.cell? ⟨gb231, 0, none⟩ = some (.slice A1_0 l1_0.length c1_0) := (blk_cell BK231.out 0).trans rfl; have hcz38_1 : w35.cell? ⟨gb231, 1, none⟩ = some (.int .i64 a1_1) := (blk_cell BK231.out 1).trans rfl; have hcz38_2 : w35.cell? ⟨gb231, 2, none⟩ = some (.int .u64 a1_2) := (blk_cell BK231.out 2).trans rfl; have hcz38_3 : w35.cell? ⟨gb231, 3, none⟩ = some (.int .u64 a1_3) := (blk_cell BK231.out 3).trans rfl; have hcz38_4 : w35.cell? ⟨gb231, 4, none⟩ = some (.int .u64 a1_4) := (blk_cell BK231.out 4).trans rfl; have hcz38_5 : w35.cell? ⟨gb231, 5, none⟩ = some (.int .u64 a1_5) := (blk_cell BK231.out 5).trans rfl; have hcz38_6 : w35.cell? ⟨gb231, 6, none⟩ = some (.bool a1_6) := (blk_cell BK231.out 6).trans rfl; have hfz38_0 := blk_frozen BK231.out 0; have hfz38_1 := blk_frozen BK231.out 1; have hfz38_2 := blk_frozen BK231.out 2; have hfz38_3 := blk_frozen BK231.out 3; have hfz38_4 := blk_frozen BK231.out 4; have hfz38_5 := blk_frozen BK231.out 5; have hfz38_6 := blk_frozen BK231.out 6)))
    go_ret
    exact ⟨by first | rfl | (simp [errW_none, errW_some] <;> rfl) | (simp [*, errW_none, errW_some] <;> rfl), by repeat (first | (with_reducible first | exact HB.out | apply below_alloc | apply pw_below_drewN | apply below_drew1 | refine below_set ?_ GE230.out | refine below_set ?_ GE231.out) | exact HB.out)⟩

end Go.Proofs.Ytdpekjffjobabaa.PAll
