/- The Go functions that the laws reach, as Lean functions, and that each call comes to what its function says. Written by a program of this session (a turned copy of the kit's print). No condition beyond those that each theorem states. -/
import Derived.Test.YtegifiagobienaaDoorPAllx0
import Derived.Test.YtegifiagobienaaDoorPAllx1
namespace Go.Proofs.YtegifiagobienaaDoor.PAll
open Go.RowKit Go.Proofs.YtegifiagobienaaDoorW.PrintWords Go.Proofs.YtegifiagobienaaDoorW.PrintLast Go.Proofs.YtegifiagobienaaDoorW.PrintMore
attribute [local go_sem] max2_int min2_int max_two min_two max_three min_three max_four min_four   -- for this text's walks alone
set_option linter.unusedVariables false
set_option linter.unusedSimpArgs false

/-! ### offertorylaw18_CrowdWithin: function 5 -/
mutual
def offertorylaw18_CrowdWithin.l0 : Nat → Int → Int → Int → Bool → List Int → Int → Option (Bool)
  | 0, _, _, _, _, _, _ => none
  | k + 1, x0, x1, x2, x7, x8, x9 => if x9 < (x8.length : Int) then (if x7 = true then (if 0 ≤ x9 then ((crowd_Has.f x1 (rd x8 x9)).bind fun t155 => (offertorylaw18_CrowdWithin.l0 k x0 x1 x2 t155 x8 (wrap64 (x9 + 1)))) else (none)) else (offertorylaw18_CrowdWithin.l0 k x0 x1 x2 false x8 (wrap64 (x9 + 1)))) else (if x2 < 0 then (offertorylaw18_CrowdWithin.j1 k x0 x1 x2 x7 0) else (offertorylaw18_CrowdWithin.j1 k x0 x1 x2 x7 x2))
def offertorylaw18_CrowdWithin.j1 : Nat → Int → Int → Int → Bool → Int → Option (Bool)
  | 0, _, _, _, _, _ => none
  | k + 1, x0, x1, x2, x7, x10 => if x10 > 64 then (offertorylaw18_CrowdWithin.j2 k x0 x1 x2 x7 64) else (offertorylaw18_CrowdWithin.j2 k x0 x1 x2 x7 x10)
def offertorylaw18_CrowdWithin.j2 : Nat → Int → Int → Int → Bool → Int → Option (Bool)
  | 0, _, _, _, _, _ => none
  | k + 1, x0, x1, x2, x7, x10 => (crowd_All.f x2).bind fun t156 => ((crowd_List.f k t156).bind fun t157 => (if (t157.length : Int) = x10 then (offertorylaw18_CrowdWithin.l1 k x0 x1 x7 x10 t157 0) else (none)))
def offertorylaw18_CrowdWithin.l1 : Nat → Int → Int → Bool → Int → List Int → Int → Option (Bool)
  | 0, _, _, _, _, _, _ => none
  | k + 1, x0, x1, x7, x10, x11, x12 => if x12 < x10 then (if 0 ≤ x12 then (if x12 < (x11.length : Int) then (if (rd x11 x12) = (wrap64 (x12 + 1)) then (offertorylaw18_CrowdWithin.l1 k x0 x1 x7 x10 x11 (wrap64 (x12 + 1))) else (none)) else (none)) else (none)) else ((offertorylaw18_awake.f k).bind fun t161 => (if t161 = true then ((crowd_Within.f x0 x1).bind fun t162 => (some (t162 == x7))) else (none)))
end
def offertorylaw18_CrowdWithin.f (k : Nat) (a0 : Int) (a1 : Int) (a2 : Int) : Option (Bool) := (crowd_List.f k a0).bind fun t151 => (offertorylaw18_CrowdWithin.l0 k a0 a1 a2 true t151 0)
theorem offertorylaw18_CrowdWithin.mono_l : ∀ k, (∀ y0 y1 y2 y3 y4 y5, LeO (offertorylaw18_CrowdWithin.l0 k y0 y1 y2 y3 y4 y5) (offertorylaw18_CrowdWithin.l0 (k + 1) y0 y1 y2 y3 y4 y5)) ∧ (∀ y0 y1 y2 y3 y4, LeO (offertorylaw18_CrowdWithin.j1 k y0 y1 y2 y3 y4) (offertorylaw18_CrowdWithin.j1 (k + 1) y0 y1 y2 y3 y4)) ∧ (∀ y0 y1 y2 y3 y4, LeO (offertorylaw18_CrowdWithin.j2 k y0 y1 y2 y3 y4) (offertorylaw18_CrowdWithin.j2 (k + 1) y0 y1 y2 y3 y4)) ∧ (∀ y0 y1 y2 y3 y4 y5, LeO (offertorylaw18_CrowdWithin.l1 k y0 y1 y2 y3 y4 y5) (offertorylaw18_CrowdWithin.l1 (k + 1) y0 y1 y2 y3 y4 y5))
  | 0 => ⟨fun _ _ _ _ _ _ r h => by simp [offertorylaw18_CrowdWithin.l0] at h, fun _ _ _ _ _ r h => by simp [offertorylaw18_CrowdWithin.j1] at h, fun _ _ _ _ _ r h => by simp [offertorylaw18_CrowdWithin.j2] at h, fun _ _ _ _ _ _ r h => by simp [offertorylaw18_CrowdWithin.l1] at h⟩
  | k + 1 => by
    obtain ⟨ih0, ih1, ih2, ih3⟩ := offertorylaw18_CrowdWithin.mono_l k
    refine ⟨?_, ?_, ?_, ?_⟩
    · intro y0 y1 y2 y3 y4 y5
      unfold offertorylaw18_CrowdWithin.l0
      repeat' first
      | (with_reducible exact ih0 _ _ _ _ _ _)
      | (with_reducible exact ih1 _ _ _ _ _)
      | (with_reducible exact ih2 _ _ _ _ _)
      | (with_reducible exact ih3 _ _ _ _ _ _)
      | (with_reducible exact crowd_List.mono _ _)
      | (with_reducible exact offertorylaw18_awake.mono _)
      | (with_reducible exact LeO.refl _)
      | (with_reducible exact LeO.none _)
      | (with_reducible refine LeO.ite ?_ ?_)
      | (with_reducible refine LeO.bind ?_ (fun _ => ?_))
      | exact ih0 _ _ _ _ _ _
      | exact ih1 _ _ _ _ _
      | exact ih2 _ _ _ _ _
      | exact ih3 _ _ _ _ _ _
      | exact crowd_List.mono _ _
      | exact offertorylaw18_awake.mono _
      | exact LeO.none _
      | refine LeO.ite ?_ ?_
      | refine LeO.bind ?_ (fun _ => ?_)
    · intro y0 y1 y2 y3 y4
      unfold offertorylaw18_CrowdWithin.j1
      repeat' first
      | (with_reducible exact ih0 _ _ _ _ _ _)
      | (with_reducible exact ih1 _ _ _ _ _)
      | (with_reducible exact ih2 _ _ _ _ _)
      | (with_reducible exact ih3 _ _ _ _ _ _)
      | (with_reducible exact crowd_List.mono _ _)
      | (with_reducible exact offertorylaw18_awake.mono _)
      | (with_reducible exact LeO.refl _)
      | (with_reducible exact LeO.none _)
      | (with_reducible refine LeO.ite ?_ ?_)
      | (with_reducible refine LeO.bind ?_ (fun _ => ?_))
      | exact ih0 _ _ _ _ _ _
      | exact ih1 _ _ _ _ _
      | exact ih2 _ _ _ _ _
      | exact ih3 _ _ _ _ _ _
      | exact crowd_List.mono _ _
      | exact offertorylaw18_awake.mono _
      | exact LeO.none _
      | refine LeO.ite ?_ ?_
      | refine LeO.bind ?_ (fun _ => ?_)
    · intro y0 y1 y2 y3 y4
      unfold offertorylaw18_CrowdWithin.j2
      repeat' first
      | (with_reducible exact ih0 _ _ _ _ _ _)
      | (with_reducible exact ih1 _ _ _ _ _)
      | (with_reducible exact ih2 _ _ _ _ _)
      | (with_reducible exact ih3 _ _ _ _ _ _)
      | (with_reducible exact crowd_List.mono _ _)
      | (with_reducible exact offertorylaw18_awake.mono _)
      | (with_reducible exact LeO.refl _)
      | (with_reducible exact LeO.none _)
      | (with_reducible refine LeO.ite ?_ ?_)
      | (with_reducible refine LeO.bind ?_ (fun _ => ?_))
      | exact ih0 _ _ _ _ _ _
      | exact ih1 _ _ _ _ _
      | exact ih2 _ _ _ _ _
      | exact ih3 _ _ _ _ _ _
      | exact crowd_List.mono _ _
      | exact offertorylaw18_awake.mono _
      | exact LeO.none _
      | refine LeO.ite ?_ ?_
      | refine LeO.bind ?_ (fun _ => ?_)
    · intro y0 y1 y2 y3 y4 y5
      unfold offertorylaw18_CrowdWithin.l1
      repeat' first
      | (with_reducible exact ih0 _ _ _ _ _ _)
      | (with_reducible exact ih1 _ _ _ _ _)
      | (with_reducible exact ih2 _ _ _ _ _)
      | (with_reducible exact ih3 _ _ _ _ _ _)
      | (with_reducible exact crowd_List.mono _ _)
      | (with_reducible exact offertorylaw18_awake.mono _)
      | (with_reducible exact LeO.refl _)
      | (with_reducible exact LeO.none _)
      | (with_reducible refine LeO.ite ?_ ?_)
      | (with_reducible refine LeO.bind ?_ (fun _ => ?_))
      | exact ih0 _ _ _ _ _ _
      | exact ih1 _ _ _ _ _
      | exact ih2 _ _ _ _ _
      | exact ih3 _ _ _ _ _ _
      | exact crowd_List.mono _ _
      | exact offertorylaw18_awake.mono _
      | exact LeO.none _
      | refine LeO.ite ?_ ?_
      | refine LeO.bind ?_ (fun _ => ?_)
theorem offertorylaw18_CrowdWithin.mono : ∀ a0 a1 a2 k, LeO (offertorylaw18_CrowdWithin.f k a0 a1 a2) (offertorylaw18_CrowdWithin.f (k + 1) a0 a1 a2) := by
  intro a0 a1 a2 k
  obtain ⟨ih0, ih1, ih2, ih3⟩ := offertorylaw18_CrowdWithin.mono_l k
  unfold offertorylaw18_CrowdWithin.f
  repeat' first
      | (with_reducible exact ih0 _ _ _ _ _ _)
      | (with_reducible exact ih1 _ _ _ _ _)
      | (with_reducible exact ih2 _ _ _ _ _)
      | (with_reducible exact ih3 _ _ _ _ _ _)
      | (with_reducible exact crowd_List.mono _ _)
      | (with_reducible exact offertorylaw18_awake.mono _)
      | (with_reducible exact LeO.refl _)
      | (with_reducible exact LeO.none _)
      | (with_reducible refine LeO.ite ?_ ?_)
      | (with_reducible refine LeO.bind ?_ (fun _ => ?_))
      | exact ih0 _ _ _ _ _ _
      | exact ih1 _ _ _ _ _
      | exact ih2 _ _ _ _ _
      | exact ih3 _ _ _ _ _ _
      | exact crowd_List.mono _ _
      | exact offertorylaw18_awake.mono _
      | exact LeO.none _
      | refine LeO.ite ?_ ?_
      | refine LeO.bind ?_ (fun _ => ?_)
set_option maxHeartbeats 8000000 in
set_option maxRecDepth 100000 in
theorem offertorylaw18_CrowdWithin.calls (k : Nat) (a0 : Int) (a1 : Int) (a2 : Int) (r : Bool) (w : World) (hT : Tab w) (h : offertorylaw18_CrowdWithin.f k a0 a1 a2 = some r) :
    Calls Tryd.prog 5 #[.int .u64 a0, .int .u64 a1, .int .i64 a2] w fun e w' => e = .returned (.bool r) ∧ Below w.heap.size w w' := by
  have HTab := Aside0.mk hT
  clear hT
  have HB := Aside0.mk (Below.refl w.heap.size w)
  have H : ((crowd_List.f k a0).bind fun t151 => (offertorylaw18_CrowdWithin.l0 k a0 a1 a2 true t151 0)) = some r := h
  clear h
  replace H := Option.bind_eq_some_iff.mp H
  obtain ⟨t151, A40, H⟩ := H
  replace H : (offertorylaw18_CrowdWithin.l0 k a0 a1 a2 true t151 0) = some r := H
  have A4 := Aside0.mk A40
  clear A40
  have H' := Aside0.mk H
  clear H
  go_enter Tryd.func5, Tryd.ntmps5
  go_wp2_with (first | ((with_reducible refine gate_callee (f := 13) rfl ?_); refine goesL_ (some 14) rfl rfl Tryd.func13 (by kernel_rfl) rfl #[.int .u64 a0] rfl (by (try simp only [List.map_toArray, List.map_cons, List.map_nil]); first | done | rfl | (simp only [List.length_drop, List.length_take]; rfl)) ?_; (with_reducible refine (crowd_List.calls k a0 t151 _ (HTab.out.step (by repeat (first | (with_reducible first | exact HB.out | apply below_alloc | apply pw_below_drewN | apply below_drew1) | exact HB.out))) A4.out).mono ?_); rintro e w5 ⟨v152, rfl, ho0, hb⟩; refine ⟨_, rfl, ?_⟩; have n0_ := Aside0.mk (Kd.R_lower ho0 (below_size (by repeat (first | (with_reducible first | exact HB.out | apply below_alloc | apply pw_below_drewN | apply below_drew1) | exact HB.out)))); have n1_ := Aside0.mk (below_step (by repeat (first | (with_reducible first | exact HB.out | apply below_alloc | apply pw_below_drewN | apply below_drew1) | exact HB.out)) hb); clear HB; have HO153 := n0_; have HB := n1_; clear n0_ n1_; (try clear hb); (try clear hb2); (try clear hk); (try clear hi); (try clear ho0)))
  go_loopg [7, 9] k (fun kq v7 v9 w' => ∃ (x7_1 : Bool) (x9_1 : Int), v7 = .bool x7_1 ∧ v9 = .int .i64 x9_1 ∧ Aside0 (offertorylaw18_CrowdWithin.l0 kq a0 a1 a2 x7_1 t151 x9_1 = some r) ∧ Aside0 (kq ≤ k) ∧ Aside0 (Kd.R (Kd.int .i64) 3 w' w.heap.size (fun _ => True) v152 t151) ∧ Aside0 (Below w.heap.size w w'))
  case atStart => exact ⟨(true), (0), (by first | rfl | (simp; done) | (simp [*]; done)), (by first | rfl | (simp; done) | (simp [*]; done)), H', ⟨Nat.le_refl _⟩, ⟨by (with_reducible repeat (first | apply Kd.R_alloc | apply Kd.R_drewN | apply Kd.R_drew)); exact HO153.out⟩, ⟨by repeat (first | (with_reducible first | exact HB.out | apply below_alloc | apply pw_below_drewN | apply below_drew1) | exact HB.out)⟩⟩
  case round =>
    clear H'
    try clear c1
    try clear p2
    try clear c5
    obtain ⟨x7_1, x9_1, rfl, rfl, HA, HK1, HO_8, HB⟩ := hrel
    cases gk with
    | zero => exact absurd HA.out (by simp [offertorylaw18_CrowdWithin.l0])
    | succ k1 =>
      have H := HA.out
      clear HA
      simp only [offertorylaw18_CrowdWithin.l0] at H
      by_cases c6 : x9_1 < (t151.length : Int)
      · rw [if_pos c6] at H
        have c6b0 : decide (x9_1 < (t151.length : Int)) = true := decide_eq_true c6
        clear c6
        by_cases c7 : x7_1 = true
        · subst c7
          have H1 : (if 0 ≤ x9_1 then ((crowd_Has.f a1 (rd t151 x9_1)).bind fun t155 => (offertorylaw18_CrowdWithin.l0 k1 a0 a1 a2 t155 t151 (wrap64 (x9_1 + 1)))) else (none)) = some r := by rw [if_pos rfl] at H; exact H
          clear H
          have H := H1
          clear H1
          by_cases c8 : 0 ≤ x9_1
          · rw [if_pos c8] at H
            have c8b0 : decide (0 ≤ x9_1) = true := decide_eq_true c8
            clear c8
            replace H := Option.bind_eq_some_iff.mp H
            obtain ⟨t155, A90, H⟩ := H
            replace H : (offertorylaw18_CrowdWithin.l0 k1 a0 a1 a2 t155 t151 (wrap64 (x9_1 + 1))) = some r := H
            have A9 := Aside0.mk A90
            clear A90
            have H' := Aside0.mk H
            clear H
            obtain ⟨Ao10, co10, eo10⟩ := Kd.R_slice HO_8.out
            subst eo10
            have p154 : 0 ≤ (x9_1 : Int) := of_decide_eq_true (by first | (with_reducible assumption) | assumption)
            have q154 : x9_1 < (t151.length : Int) := of_decide_eq_true (by first | (with_reducible assumption) | assumption)
            obtain ⟨ad154, e154, hx154_0⟩ := Kd.at_int (Kd.R_reads' HO_8.out).2.2 x9_1 p154 q154
            cases e154
            replace p154 := eq_true p154
            replace q154 := eq_true q154
            go_wp2_with (first | (go_at_call 11; (with_reducible refine (crowd_Has.calls a1 (rd t151 x9_1) t155 _ A9.out).mono ?_); rintro e w' ⟨rfl, ⟨nd, rfl⟩⟩))
            go_roundg k1
            case measure => have := HK1.out; omega
            case rel => exact ⟨(t155), (wrap64 (x9_1 + 1)), (by first | rfl | (simp; done) | (simp [*]; done)), (by first | rfl | (simp; done) | (simp [*]; done)), H', ⟨by have := HK1.out; omega⟩, ⟨by (with_reducible repeat (first | apply Kd.R_alloc | apply Kd.R_drewN | apply Kd.R_drew)); exact HO_8.out⟩, ⟨by repeat (first | (with_reducible first | exact HB.out | apply below_alloc | apply pw_below_drewN | apply below_drew1) | exact HB.out)⟩⟩
          · rw [if_neg c8] at H
            exact absurd H (by simp)
        · replace c7 := Bool.eq_false_iff.mpr c7
          subst c7
          have H1 : (offertorylaw18_CrowdWithin.l0 k1 a0 a1 a2 false t151 (wrap64 (x9_1 + 1))) = some r := by rw [if_neg (show ¬ (false = true) by decide)] at H; exact H
          clear H
          have H := H1
          clear H1
          have H' := Aside0.mk H
          clear H
          obtain ⟨Ao11, co11, eo11⟩ := Kd.R_slice HO_8.out
          subst eo11
          go_wp2
          go_roundg k1
          case measure => have := HK1.out; omega
          case rel => exact ⟨(false), (wrap64 (x9_1 + 1)), (by first | rfl | (simp; done) | (simp [*]; done)), (by first | rfl | (simp; done) | (simp [*]; done)), H', ⟨by have := HK1.out; omega⟩, ⟨by (with_reducible repeat (first | apply Kd.R_alloc | apply Kd.R_drewN | apply Kd.R_drew)); exact HO_8.out⟩, ⟨by repeat (first | (with_reducible first | exact HB.out | apply below_alloc | apply pw_below_drewN | apply below_drew1) | exact HB.out)⟩⟩
      · rw [if_neg c6] at H
        have c6b0 : decide (x9_1 < (t151.length : Int)) = false := decide_eq_false c6
        clear c6
        have HC12 := Aside0.mk H
        clear H
        obtain ⟨Ao13, co13, eo13⟩ := Kd.R_slice HO_8.out
        subst eo13
        go_upto_if 32 with (fail)
        go_cut [10] (fun v10 wc => ∃ (kq : Nat) (x10_11 : Int), v10 = .int .i64 x10_11 ∧ Aside0 (offertorylaw18_CrowdWithin.j1 kq a0 a1 a2 x7_1 x10_11 = some r) ∧ Aside0 (kq ≤ k1) ∧ Aside0 (Below w.heap.size w wc))
        case first =>
          have H := HC12.out
          clear HC12
          by_cases c14 : a2 < 0
          · rw [if_pos c14] at H
            have c14b0 : decide (a2 < 0) = true := decide_eq_true c14
            clear c14
            (first | rw [c14b0] | (simp only [i64_w, i32_w]; rw [c14b0]) | skip)
            have H' := Aside0.mk H
            clear H
            go_wp2
            go_meet
            case rel => exact ⟨_, (0), (by first | rfl | (simp; done) | (simp [*]; done)), H', ⟨by have := HK1.out; first | omega | exact Nat.le_refl _⟩, ⟨by repeat (first | (with_reducible first | exact HB.out | apply below_alloc | apply pw_below_drewN | apply below_drew1) | exact HB.out)⟩⟩
          · rw [if_neg c14] at H
            have c14b0 : decide (a2 < 0) = false := decide_eq_false c14
            clear c14
            (first | rw [c14b0] | (simp only [i64_w, i32_w]; rw [c14b0]) | skip)
            have H' := Aside0.mk H
            clear H
            go_wp2
            go_meet
            case rel => exact ⟨_, (a2), (by first | rfl | (simp; done) | (simp [*]; done)), H', ⟨by have := HK1.out; first | omega | exact Nat.le_refl _⟩, ⟨by repeat (first | (with_reducible first | exact HB.out | apply below_alloc | apply pw_below_drewN | apply below_drew1) | exact HB.out)⟩⟩
        case rest =>
          clear HC12
          try clear c1
          try clear p1
          try clear q1
          try clear hx1
          try clear p2
          try clear c5
          try clear c6
          try clear c6b0
          try clear p6
          try clear c7
          try clear c8
          try clear c8b0
          try clear c13
          try clear c14
          try clear c14b0
          try clear hx154_0
          try clear p154
          try clear p2
          try clear q154
          obtain ⟨kq, x10_11, rfl, HA, HJ11, HB⟩ := hcut
          cases kq with
          | zero => exact absurd HA.out (by simp [offertorylaw18_CrowdWithin.j1])
          | succ kj11 =>
            have H := HA.out
            clear HA
            simp only [offertorylaw18_CrowdWithin.j1] at H
            have HC15 := Aside0.mk H
            clear H
            go_upto_if 34 with (fail)
            go_cut [10] (fun v10 wc => ∃ (kq : Nat) (x10_14 : Int), v10 = .int .i64 x10_14 ∧ Aside0 (offertorylaw18_CrowdWithin.j2 kq a0 a1 a2 x7_1 x10_14 = some r) ∧ Aside0 (kq ≤ kj11) ∧ Aside0 (Below w.heap.size w wc))
            case first =>
              have H := HC15.out
              clear HC15
              by_cases c16 : x10_11 > 64
              · rw [if_pos c16] at H
                have c16b0 : decide (64 < x10_11) = true := decide_eq_true c16
                clear c16
                (first | rw [c16b0] | (simp only [i64_w, i32_w]; rw [c16b0]) | skip)
                have H' := Aside0.mk H
                clear H
                go_wp2
                go_meet
                case rel => exact ⟨_, (64), (by first | rfl | (simp; done) | (simp [*]; done)), H', ⟨by have := HK1.out; have := HJ11.out; first | omega | exact Nat.le_refl _⟩, ⟨by repeat (first | (with_reducible first | exact HB.out | apply below_alloc | apply pw_below_drewN | apply below_drew1) | exact HB.out)⟩⟩
              · rw [if_neg c16] at H
                have c16b0 : decide (64 < x10_11) = false := decide_eq_false c16
                clear c16
                (first | rw [c16b0] | (simp only [i64_w, i32_w]; rw [c16b0]) | skip)
                have H' := Aside0.mk H
                clear H
                go_wp2
                go_meet
                case rel => exact ⟨_, (x10_11), (by first | rfl | (simp; done) | (simp [*]; done)), H', ⟨by have := HK1.out; have := HJ11.out; first | omega | exact Nat.le_refl _⟩, ⟨by repeat (first | (with_reducible first | exact HB.out | apply below_alloc | apply pw_below_drewN | apply below_drew1) | exact HB.out)⟩⟩
            case rest =>
              clear HC15
              try clear c1
              try clear p1
              try clear q1
              try clear hx1
              try clear p2
              try clear c5
              try clear c6
              try clear c6b0
              try clear p6
              try clear c7
              try clear c8
              try clear c8b0
              try clear c13
              try clear c14
              try clear c14b0
              try clear p15
              try clear q15
              try clear hx15
              try clear c16
              try clear c16b0
              try clear hx154_0
              try clear p1
              try clear p154
              try clear p2
              try clear p6
              try clear q1
              try clear q154
              obtain ⟨kq, x10_14, rfl, HA, HJ14, HB⟩ := hcut
              cases kq with
              | zero => exact absurd HA.out (by simp [offertorylaw18_CrowdWithin.j2])
              | succ kj14 =>
                have H := HA.out
                clear HA
                simp only [offertorylaw18_CrowdWithin.j2] at H
                replace H := Option.bind_eq_some_iff.mp H
                obtain ⟨t156, A170, H⟩ := H
                replace H : ((crowd_List.f kj14 t156).bind fun t157 => (if (t157.length : Int) = x10_14 then (offertorylaw18_CrowdWithin.l1 kj14 a0 a1 x7_1 x10_14 t157 0) else (none))) = some r := H
                have A17 := Aside0.mk A170
                clear A170
                replace H := Option.bind_eq_some_iff.mp H
                obtain ⟨t157, A180, H⟩ := H
                replace H : (if (t157.length : Int) = x10_14 then (offertorylaw18_CrowdWithin.l1 kj14 a0 a1 x7_1 x10_14 t157 0) else (none)) = some r := H
                have A18 := Aside0.mk A180
                clear A180
                by_cases c19 : (t157.length : Int) = x10_14
                · rw [if_pos c19] at H
                  have c19b0 : ((t157.length : Int) == x10_14) = true := beq_iff_eq.mpr c19
                  have c19b1 : ((t157.length : Int) != x10_14) = false := bne_eq_false_iff_eq.mpr c19
                  clear c19
                  have H' := Aside0.mk H
                  clear H
                  go_wp2_with (first | ((with_reducible refine gate_callee (f := 14) rfl ?_); refine goesL_ (some 36) rfl rfl Tryd.func14 (by kernel_rfl) rfl #[.int .i64 a2] rfl (by (try simp only [List.map_toArray, List.map_cons, List.map_nil]); first | done | rfl | (simp only [List.length_drop, List.length_take]; rfl)) ?_; (with_reducible refine (crowd_All.calls a2 t156 _ A17.out).mono ?_); rintro e w20 ⟨rfl, hb⟩; refine ⟨_, rfl, ?_⟩; have n0_ := Aside0.mk (below_step (by repeat (first | (with_reducible first | exact HB.out | apply below_alloc | apply pw_below_drewN | apply below_drew1) | exact HB.out)) hb); clear HB; have HB := n0_; clear n0_; (try clear hb); (try clear hb2); (try clear hk); (try clear hi)) | ((with_reducible refine gate_callee (f := 13) rfl ?_); refine goesL_ (some 37) rfl rfl Tryd.func13 (by kernel_rfl) rfl #[.int .u64 t156] rfl (by (try simp only [List.map_toArray, List.map_cons, List.map_nil]); first | done | rfl | (simp only [List.length_drop, List.length_take]; rfl)) ?_; (with_reducible refine (crowd_List.calls kj14 t156 t157 _ (HTab.out.step (by repeat (first | (with_reducible first | exact HB.out | apply below_alloc | apply pw_below_drewN | apply below_drew1) | exact HB.out))) A18.out).mono ?_); rintro e w21 ⟨v158, rfl, ho0, hb⟩; refine ⟨_, rfl, ?_⟩; have n0_ := Aside0.mk (Kd.R_lower ho0 (below_size (by repeat (first | (with_reducible first | exact HB.out | apply below_alloc | apply pw_below_drewN | apply below_drew1) | exact HB.out)))); have n1_ := Aside0.mk (below_step (by repeat (first | (with_reducible first | exact HB.out | apply below_alloc | apply pw_below_drewN | apply below_drew1) | exact HB.out)) hb); clear HB; have HO159 := n0_; have HB := n1_; clear n0_ n1_; (try clear hb); (try clear hb2); (try clear hk); (try clear hi); (try clear ho0); obtain ⟨Ao22, co22, eo22⟩ := Kd.R_slice HO159.out; subst eo22))
                  go_loopg [12] kj14 (fun kq v12 w' => ∃ (x12_4 : Int), v12 = .int .i64 x12_4 ∧ Aside0 (offertorylaw18_CrowdWithin.l1 kq a0 a1 x7_1 x10_14 t157 x12_4 = some r) ∧ Aside0 (kq ≤ kj14) ∧ Aside0 (Kd.R (Kd.int .i64) 3 w' w.heap.size (fun _ => True) (.slice Ao22 t157.length co22) t157) ∧ Aside0 (Below w.heap.size w w'))
                  case atStart => exact ⟨(0), (by first | rfl | (simp; done) | (simp [*]; done)), H', ⟨Nat.le_refl _⟩, ⟨by (with_reducible repeat (first | apply Kd.R_alloc | apply Kd.R_drewN | apply Kd.R_drew)); exact HO159.out⟩, ⟨by repeat (first | (with_reducible first | exact HB.out | apply below_alloc | apply pw_below_drewN | apply below_drew1) | exact HB.out)⟩⟩
                  case round =>
                    clear H'
                    try clear c1
                    try clear p1
                    try clear q1
                    try clear hx1
                    try clear p2
                    try clear c5
                    try clear c6
                    try clear c6b0
                    try clear p6
                    try clear c7
                    try clear c8
                    try clear c8b0
                    try clear c13
                    try clear c14
                    try clear c14b0
                    try clear p15
                    try clear q15
                    try clear hx15
                    try clear c16
                    try clear c16b0
                    try clear c19
                    try clear c19b0
                    try clear c19b1
                    try clear hx154_0
                    try clear p1
                    try clear p15
                    try clear p154
                    try clear p2
                    try clear p6
                    try clear q1
                    try clear q15
                    try clear q154
                    obtain ⟨x12_4, rfl, HA, HK4, HO_11, HB⟩ := hrel
                    cases gk with
                    | zero => exact absurd HA.out (by simp [offertorylaw18_CrowdWithin.l1])
                    | succ k4 =>
                      have H := HA.out
                      clear HA
                      simp only [offertorylaw18_CrowdWithin.l1] at H
                      by_cases c23 : x12_4 < x10_14
                      · rw [if_pos c23] at H
                        have c23b0 : decide (x12_4 < x10_14) = true := decide_eq_true c23
                        clear c23
                        by_cases c24 : 0 ≤ x12_4
                        · rw [if_pos c24] at H
                          have c24b0 : decide (0 ≤ x12_4) = true := decide_eq_true c24
                          clear c24
                          by_cases c25 : x12_4 < (t157.length : Int)
                          · rw [if_pos c25] at H
                            have c25b0 : decide (x12_4 < (t157.length : Int)) = true := decide_eq_true c25
                            clear c25
                            by_cases c26 : (rd t157 x12_4) = (wrap64 (x12_4 + 1))
                            · rw [if_pos c26] at H
                              have c26b0 : ((rd t157 x12_4) == (wrap64 (x12_4 + 1))) = true := beq_iff_eq.mpr c26
                              have c26b1 : ((rd t157 x12_4) != (wrap64 (x12_4 + 1))) = false := bne_eq_false_iff_eq.mpr c26
                              clear c26
                              have H' := Aside0.mk H
                              clear H
                              have p160 : 0 ≤ (x12_4 : Int) := of_decide_eq_true (by first | (with_reducible assumption) | assumption)
                              have q160 : x12_4 < (t157.length : Int) := of_decide_eq_true (by first | (with_reducible assumption) | assumption)
                              obtain ⟨ad160, e160, hx160_0⟩ := Kd.at_int (Kd.R_reads' HO_11.out).2.2 x12_4 p160 q160
                              cases e160
                              replace p160 := eq_true p160
                              replace q160 := eq_true q160
                              go_wp2
                              go_roundg k4
                              case measure => have := HK1.out; have := HJ11.out; have := HJ14.out; have := HK4.out; omega
                              case rel => exact ⟨(wrap64 (x12_4 + 1)), (by first | rfl | (simp; done) | (simp [*]; done)), H', ⟨by have := HK1.out; have := HJ11.out; have := HJ14.out; have := HK4.out; omega⟩, ⟨by (with_reducible repeat (first | apply Kd.R_alloc | apply Kd.R_drewN | apply Kd.R_drew)); exact HO_11.out⟩, ⟨by repeat (first | (with_reducible first | exact HB.out | apply below_alloc | apply pw_below_drewN | apply below_drew1) | exact HB.out)⟩⟩
                            · rw [if_neg c26] at H
                              exact absurd H (by simp)
                          · rw [if_neg c25] at H
                            exact absurd H (by simp)
                        · rw [if_neg c24] at H
                          exact absurd H (by simp)
                      · rw [if_neg c23] at H
                        have c23b0 : decide (x12_4 < x10_14) = false := decide_eq_false c23
                        clear c23
                        replace H := Option.bind_eq_some_iff.mp H
                        obtain ⟨t161, A270, H⟩ := H
                        replace H : (if t161 = true then ((crowd_Within.f a0 a1).bind fun t162 => (some (t162 == x7_1))) else (none)) = some r := H
                        have A27 := Aside0.mk A270
                        clear A270
                        by_cases c28 : t161 = true
                        · subst c28
                          have H1 : ((crowd_Within.f a0 a1).bind fun t162 => (some (t162 == x7_1))) = some r := by rw [if_pos rfl] at H; exact H
                          clear H
                          have H := H1
                          clear H1
                          replace H := Option.bind_eq_some_iff.mp H
                          obtain ⟨t162, A290, H⟩ := H
                          replace H : (some (t162 == x7_1)) = some r := H
                          have A29 := Aside0.mk A290
                          clear A290
                          obtain rfl := Option.some.inj H
                          go_wp2_with (first | ((with_reducible refine gate_callee (f := 9) rfl ?_); refine goesL_ (some 54) rfl rfl Tryd.func9 (by kernel_rfl) rfl #[] rfl (by (try simp only [List.map_toArray, List.map_cons, List.map_nil]); first | done | rfl | (simp only [List.length_drop, List.length_take]; rfl)) ?_; (with_reducible refine (offertorylaw18_awake.calls k4  true _ (HTab.out.step (by repeat (first | (with_reducible first | exact HB.out | apply below_alloc | apply pw_below_drewN | apply below_drew1) | exact HB.out))) A27.out).mono ?_); rintro e w30 ⟨rfl, hb⟩; refine ⟨_, rfl, ?_⟩; have n0_ := Aside0.mk (Kd.R_below (by (with_reducible repeat (first | apply Kd.R_alloc | apply Kd.R_drewN | apply Kd.R_drew)); exact HO_11.out) hb); have n1_ := Aside0.mk (below_step (by repeat (first | (with_reducible first | exact HB.out | apply below_alloc | apply pw_below_drewN | apply below_drew1) | exact HB.out)) hb); clear HO_11; clear HB; have HO_11 := n0_; have HB := n1_; clear n0_ n1_; (try clear hb); (try clear hb2); (try clear hk); (try clear hi)) | (go_at_call 15; (with_reducible refine (crowd_Within.calls a0 a1 t162 _ A29.out).mono ?_); rintro e w' ⟨rfl, ⟨nd, rfl⟩⟩))
                          go_ret
                          exact ⟨by first | rfl | (simp [errW_none, errW_some] <;> rfl) | (simp [*, errW_none, errW_some] <;> rfl), by repeat (first | (with_reducible first | exact HB.out | apply below_alloc | apply pw_below_drewN | apply below_drew1) | exact HB.out)⟩
                        · replace c28 := Bool.eq_false_iff.mpr c28
                          subst c28
                          have H1 : (none) = some r := by rw [if_neg (show ¬ (false = true) by decide)] at H; exact H
                          clear H
                          have H := H1
                          clear H1
                          exact absurd H (by simp)
                · rw [if_neg c19] at H
                  exact absurd H (by simp)

/-! ### offertorylaw18_CrowdBack: function 6 -/
def offertorylaw18_CrowdBack.f (k : Nat) (a0 : Int) : Option (Bool) := (crowd_List.f k a0).bind fun t163 => ((crowd_Of.f k t163).bind fun bt166 => ((offertorylaw18_awake.f k).bind fun t168 => (if t168 = true then (if bt166.2 = 0 then (if bt166.1 = a0 then ((crowd_Within.f a0 a0).bind fun t169 => (if t169 = true then ((crowd_All.f 64).bind fun t170 => ((crowd_Within.f a0 t170).bind fun t171 => (if t171 = true then ((crowd_Within.f 0 a0).bind fun t172 => (some t172)) else (none)))) else (none))) else (none)) else (none)) else (none))))
theorem offertorylaw18_CrowdBack.mono : ∀ a0 k, LeO (offertorylaw18_CrowdBack.f k a0) (offertorylaw18_CrowdBack.f (k + 1) a0) := by
  intro a0 k
  unfold offertorylaw18_CrowdBack.f
  repeat' first
      | (with_reducible exact crowd_List.mono _ _)
      | (with_reducible exact crowd_Of.mono _ _)
      | (with_reducible exact offertorylaw18_awake.mono _)
      | (with_reducible exact LeO.refl _)
      | (with_reducible exact LeO.none _)
      | (with_reducible refine LeO.ite ?_ ?_)
      | (with_reducible refine LeO.bind ?_ (fun _ => ?_))
      | exact crowd_List.mono _ _
      | exact crowd_Of.mono _ _
      | exact offertorylaw18_awake.mono _
      | exact LeO.none _
      | refine LeO.ite ?_ ?_
      | refine LeO.bind ?_ (fun _ => ?_)
set_option maxHeartbeats 8000000 in
set_option maxRecDepth 100000 in
theorem offertorylaw18_CrowdBack.calls (k : Nat) (a0 : Int) (r : Bool) (w : World) (hT : Tab w) (h : offertorylaw18_CrowdBack.f k a0 = some r) :
    Calls Tryd.prog 6 #[.int .u64 a0] w fun e w' => e = .returned (.bool r) ∧ Below w.heap.size w w' := by
  have HTab := Aside0.mk hT
  clear hT
  have HB := Aside0.mk (Below.refl w.heap.size w)
  have H : ((crowd_List.f k a0).bind fun t163 => ((crowd_Of.f k t163).bind fun bt166 => ((offertorylaw18_awake.f k).bind fun t168 => (if t168 = true then (if bt166.2 = 0 then (if bt166.1 = a0 then ((crowd_Within.f a0 a0).bind fun t169 => (if t169 = true then ((crowd_All.f 64).bind fun t170 => ((crowd_Within.f a0 t170).bind fun t171 => (if t171 = true then ((crowd_Within.f 0 a0).bind fun t172 => (some t172)) else (none)))) else (none))) else (none)) else (none)) else (none))))) = some r := h
  clear h
  replace H := Option.bind_eq_some_iff.mp H
  obtain ⟨t163, A20, H⟩ := H
  replace H : ((crowd_Of.f k t163).bind fun bt166 => ((offertorylaw18_awake.f k).bind fun t168 => (if t168 = true then (if bt166.2 = 0 then (if bt166.1 = a0 then ((crowd_Within.f a0 a0).bind fun t169 => (if t169 = true then ((crowd_All.f 64).bind fun t170 => ((crowd_Within.f a0 t170).bind fun t171 => (if t171 = true then ((crowd_Within.f 0 a0).bind fun t172 => (some t172)) else (none)))) else (none))) else (none)) else (none)) else (none)))) = some r := H
  have A2 := Aside0.mk A20
  clear A20
  replace H := Option.bind_eq_some_iff.mp H
  obtain ⟨⟨t166, t167⟩, A30, H⟩ := H
  replace H : ((offertorylaw18_awake.f k).bind fun t168 => (if t168 = true then (if t167 = 0 then (if t166 = a0 then ((crowd_Within.f a0 a0).bind fun t169 => (if t169 = true then ((crowd_All.f 64).bind fun t170 => ((crowd_Within.f a0 t170).bind fun t171 => (if t171 = true then ((crowd_Within.f 0 a0).bind fun t172 => (some t172)) else (none)))) else (none))) else (none)) else (none)) else (none))) = some r := H
  have A3 := Aside0.mk A30
  clear A30
  replace H := Option.bind_eq_some_iff.mp H
  obtain ⟨t168, A40, H⟩ := H
  replace H : (if t168 = true then (if t167 = 0 then (if t166 = a0 then ((crowd_Within.f a0 a0).bind fun t169 => (if t169 = true then ((crowd_All.f 64).bind fun t170 => ((crowd_Within.f a0 t170).bind fun t171 => (if t171 = true then ((crowd_Within.f 0 a0).bind fun t172 => (some t172)) else (none)))) else (none))) else (none)) else (none)) else (none)) = some r := H
  have A4 := Aside0.mk A40
  clear A40
  by_cases c5 : t168 = true
  · subst c5
    have H1 : (if t167 = 0 then (if t166 = a0 then ((crowd_Within.f a0 a0).bind fun t169 => (if t169 = true then ((crowd_All.f 64).bind fun t170 => ((crowd_Within.f a0 t170).bind fun t171 => (if t171 = true then ((crowd_Within.f 0 a0).bind fun t172 => (some t172)) else (none)))) else (none))) else (none)) else (none)) = some r := by rw [if_pos rfl] at H; exact H
    clear H
    have H := H1
    clear H1
    by_cases c6 : t167 = 0
    · rw [if_pos c6] at H
      have c6b0 : (t167 == 0) = true := beq_iff_eq.mpr c6
      have c6b1 : (t167 != 0) = false := bne_eq_false_iff_eq.mpr c6
      clear c6
      by_cases c7 : t166 = a0
      · rw [if_pos c7] at H
        have c7b0 : (t166 == a0) = true := beq_iff_eq.mpr c7
        have c7b1 : (t166 != a0) = false := bne_eq_false_iff_eq.mpr c7
        clear c7
        replace H := Option.bind_eq_some_iff.mp H
        obtain ⟨t169, A80, H⟩ := H
        replace H : (if t169 = true then ((crowd_All.f 64).bind fun t170 => ((crowd_Within.f a0 t170).bind fun t171 => (if t171 = true then ((crowd_Within.f 0 a0).bind fun t172 => (some t172)) else (none)))) else (none)) = some r := H
        have A8 := Aside0.mk A80
        clear A80
        by_cases c9 : t169 = true
        · subst c9
          have H1 : ((crowd_All.f 64).bind fun t170 => ((crowd_Within.f a0 t170).bind fun t171 => (if t171 = true then ((crowd_Within.f 0 a0).bind fun t172 => (some t172)) else (none)))) = some r := by rw [if_pos rfl] at H; exact H
          clear H
          have H := H1
          clear H1
          replace H := Option.bind_eq_some_iff.mp H
          obtain ⟨t170, A100, H⟩ := H
          replace H : ((crowd_Within.f a0 t170).bind fun t171 => (if t171 = true then ((crowd_Within.f 0 a0).bind fun t172 => (some t172)) else (none))) = some r := H
          have A10 := Aside0.mk A100
          clear A100
          replace H := Option.bind_eq_some_iff.mp H
          obtain ⟨t171, A110, H⟩ := H
          replace H : (if t171 = true then ((crowd_Within.f 0 a0).bind fun t172 => (some t172)) else (none)) = some r := H
          have A11 := Aside0.mk A110
          clear A110
          by_cases c12 : t171 = true
          · subst c12
            have H1 : ((crowd_Within.f 0 a0).bind fun t172 => (some t172)) = some r := by rw [if_pos rfl] at H; exact H
            clear H
            have H := H1
            clear H1
            replace H := Option.bind_eq_some_iff.mp H
            obtain ⟨t172, A130, H⟩ := H
            replace H : (some t172) = some r := H
            have A13 := Aside0.mk A130
            clear A130
            obtain rfl := Option.some.inj H
            go_enter Tryd.func6, Tryd.ntmps6
            go_wp2_with (first | ((with_reducible refine gate_callee (f := 13) rfl ?_); refine goesL_ (some 7) rfl rfl Tryd.func13 (by kernel_rfl) rfl #[.int .u64 a0] rfl (by (try simp only [List.map_toArray, List.map_cons, List.map_nil]); first | done | rfl | (simp only [List.length_drop, List.length_take]; rfl)) ?_; (with_reducible refine (crowd_List.calls k a0 t163 _ (HTab.out.step (by repeat (first | (with_reducible first | exact HB.out | apply below_alloc | apply pw_below_drewN | apply below_drew1) | exact HB.out))) A2.out).mono ?_); rintro e w14 ⟨v164, rfl, ho0, hb⟩; refine ⟨_, rfl, ?_⟩; have n0_ := Aside0.mk (Kd.R_lower ho0 (below_size (by repeat (first | (with_reducible first | exact HB.out | apply below_alloc | apply pw_below_drewN | apply below_drew1) | exact HB.out)))); have n1_ := Aside0.mk (below_step (by repeat (first | (with_reducible first | exact HB.out | apply below_alloc | apply pw_below_drewN | apply below_drew1) | exact HB.out)) hb); clear HB; have HO165 := n0_; have HB := n1_; clear n0_ n1_; (try clear hb); (try clear hb2); (try clear hk); (try clear hi); (try clear ho0); obtain ⟨Ao15, co15, eo15⟩ := Kd.R_slice HO165.out; subst eo15) | ((with_reducible refine gate_callee (f := 8) rfl ?_); refine goesL_ (some 8) rfl rfl Tryd.func8 (by kernel_rfl) rfl #[.slice Ao15 t163.length co15] rfl (by (try simp only [List.map_toArray, List.map_cons, List.map_nil]); first | done | rfl | (simp only [List.length_drop, List.length_take]; rfl)) ?_; (with_reducible refine (crowd_Of.calls k _ _ t163 t166 t167 _ ?side1 ?side2 A3.out).mono ?_); (case side1 => repeat (first | exact (Kd.R_reads' HO165.out).2.2 | (with_reducible refine Kd.C_alloc ?_ _) | (with_reducible refine Kd.C_drewN ?_ _) | (with_reducible refine Kd.C_drew ?_))); (case side2 => exact (Kd.R_reads' HO165.out).2.1); rintro e w' ⟨rfl, ⟨nd, rfl⟩⟩; refine ⟨_, rfl, ?_⟩) | ((with_reducible refine gate_callee (f := 9) rfl ?_); refine goesL_ (some 11) rfl rfl Tryd.func9 (by kernel_rfl) rfl #[] rfl (by (try simp only [List.map_toArray, List.map_cons, List.map_nil]); first | done | rfl | (simp only [List.length_drop, List.length_take]; rfl)) ?_; (with_reducible refine (offertorylaw18_awake.calls k  true _ (HTab.out.step (by repeat (first | (with_reducible first | exact HB.out | apply below_alloc | apply pw_below_drewN | apply below_drew1) | exact HB.out))) A4.out).mono ?_); rintro e w16 ⟨rfl, hb⟩; refine ⟨_, rfl, ?_⟩; have n0_ := Aside0.mk (Kd.R_below (by (with_reducible repeat (first | apply Kd.R_alloc | apply Kd.R_drewN | apply Kd.R_drew)); exact HO165.out) hb); have n1_ := Aside0.mk (below_step (by repeat (first | (with_reducible first | exact HB.out | apply below_alloc | apply pw_below_drewN | apply below_drew1) | exact HB.out)) hb); clear HO165; clear HB; have HO165 := n0_; have HB := n1_; clear n0_ n1_; (try clear hb); (try clear hb2); (try clear hk); (try clear hi)) | (go_at_call 15; (with_reducible refine (crowd_Within.calls a0 a0 true _ A8.out).mono ?_); rintro e w' ⟨rfl, ⟨nd, rfl⟩⟩) | (go_at_call 14; (with_reducible refine (crowd_All.calls 64 t170 _ A10.out).mono ?_); rintro e w17 ⟨rfl, hb⟩; have n0_ := Aside0.mk (Kd.R_below (by (with_reducible repeat (first | apply Kd.R_alloc | apply Kd.R_drewN | apply Kd.R_drew)); exact HO165.out) hb); have n1_ := Aside0.mk (below_step (by repeat (first | (with_reducible first | exact HB.out | apply below_alloc | apply pw_below_drewN | apply below_drew1) | exact HB.out)) hb); clear HO165; clear HB; have HO165 := n0_; have HB := n1_; clear n0_ n1_; (try clear hb); (try clear hb2); (try clear hk); (try clear hi)) | (go_at_call 15; (with_reducible refine (crowd_Within.calls a0 t170 true _ A11.out).mono ?_); rintro e w' ⟨rfl, ⟨nd, rfl⟩⟩) | (go_at_call 15; (with_reducible refine (crowd_Within.calls 0 a0 t172 _ A13.out).mono ?_); rintro e w' ⟨rfl, ⟨nd, rfl⟩⟩))
            go_ret
            exact ⟨by first | rfl | (simp [errW_none, errW_some] <;> rfl) | (simp [*, errW_none, errW_some] <;> rfl), by repeat (first | (with_reducible first | exact HB.out | apply below_alloc | apply pw_below_drewN | apply below_drew1) | exact HB.out)⟩
          · replace c12 := Bool.eq_false_iff.mpr c12
            subst c12
            have H1 : (none) = some r := by rw [if_neg (show ¬ (false = true) by decide)] at H; exact H
            clear H
            have H := H1
            clear H1
            exact absurd H (by simp)
        · replace c9 := Bool.eq_false_iff.mpr c9
          subst c9
          have H1 : (none) = some r := by rw [if_neg (show ¬ (false = true) by decide)] at H; exact H
          clear H
          have H := H1
          clear H1
          exact absurd H (by simp)
      · rw [if_neg c7] at H
        exact absurd H (by simp)
    · rw [if_neg c6] at H
      exact absurd H (by simp)
  · replace c5 := Bool.eq_false_iff.mpr c5
    subst c5
    have H1 : (none) = some r := by rw [if_neg (show ¬ (false = true) by decide)] at H; exact H
    clear H
    have H := H1
    clear H1
    exact absurd H (by simp)

/-! ### offertorylaw18_CrowdParts: function 7 -/
def offertorylaw18_CrowdParts.f (k : Nat) (a0 : Int) (a1 : Int) (a2 : Int) : Option (Bool) := (offertorylaw18_awake.f k).bind fun t173 => (if t173 = true then ((crowd_Size.f (Go.bits .and .u64 a0 a1)).bind fun t174 => ((crowd_Size.f (Go.bits .andNot .u64 a0 a1)).bind fun t175 => ((crowd_Size.f a0).bind fun t176 => (if (wrap64 (t174 + t175)) = t176 then ((crowd_Within.f (Go.bits .and .u64 a0 a1) a0).bind fun t177 => (if t177 = true then ((crowd_Within.f (Go.bits .and .u64 a0 a1) a1).bind fun t178 => (if t178 = true then ((crowd_Within.f (Go.bits .andNot .u64 a0 a1) a0).bind fun t179 => (if t179 = true then ((crowd_Has.f a0 a2).bind fun t180 => ((crowd_Has.f (Go.bits .and .u64 a0 a1) a2).bind fun t181 => (if t181 = true then (if (t180 == true) = true then ((crowd_Within.f a0 a1).bind fun t182 => (some (t182 == ((Go.bits .andNot .u64 a0 a1) == 0)))) else (none)) else ((crowd_Has.f (Go.bits .andNot .u64 a0 a1) a2).bind fun t183 => (if (t180 == t183) = true then ((crowd_Within.f a0 a1).bind fun t184 => (some (t184 == ((Go.bits .andNot .u64 a0 a1) == 0)))) else (none)))))) else (none))) else (none))) else (none))) else (none))))) else (none))
theorem offertorylaw18_CrowdParts.mono : ∀ a0 a1 a2 k, LeO (offertorylaw18_CrowdParts.f k a0 a1 a2) (offertorylaw18_CrowdParts.f (k + 1) a0 a1 a2) := by
  intro a0 a1 a2 k
  unfold offertorylaw18_CrowdParts.f
  repeat' first
      | (with_reducible exact offertorylaw18_awake.mono _)
      | (with_reducible exact LeO.refl _)
      | (with_reducible exact LeO.none _)
      | (with_reducible refine LeO.ite ?_ ?_)
      | (with_reducible refine LeO.bind ?_ (fun _ => ?_))
      | exact offertorylaw18_awake.mono _
      | exact LeO.none _
      | refine LeO.ite ?_ ?_
      | refine LeO.bind ?_ (fun _ => ?_)
set_option maxHeartbeats 8000000 in
set_option maxRecDepth 100000 in
theorem offertorylaw18_CrowdParts.calls (k : Nat) (a0 : Int) (a1 : Int) (a2 : Int) (r : Bool) (w : World) (hT : Tab w) (h : offertorylaw18_CrowdParts.f k a0 a1 a2 = some r) :
    Calls Tryd.prog 7 #[.int .u64 a0, .int .u64 a1, .int .i64 a2] w fun e w' => e = .returned (.bool r) ∧ Below w.heap.size w w' := by
  have HTab := Aside0.mk hT
  clear hT
  have HB := Aside0.mk (Below.refl w.heap.size w)
  have H : ((offertorylaw18_awake.f k).bind fun t173 => (if t173 = true then ((crowd_Size.f (Go.bits .and .u64 a0 a1)).bind fun t174 => ((crowd_Size.f (Go.bits .andNot .u64 a0 a1)).bind fun t175 => ((crowd_Size.f a0).bind fun t176 => (if (wrap64 (t174 + t175)) = t176 then ((crowd_Within.f (Go.bits .and .u64 a0 a1) a0).bind fun t177 => (if t177 = true then ((crowd_Within.f (Go.bits .and .u64 a0 a1) a1).bind fun t178 => (if t178 = true then ((crowd_Within.f (Go.bits .andNot .u64 a0 a1) a0).bind fun t179 => (if t179 = true then ((crowd_Has.f a0 a2).bind fun t180 => ((crowd_Has.f (Go.bits .and .u64 a0 a1) a2).bind fun t181 => (if t181 = true then (if (t180 == true) = true then ((crowd_Within.f a0 a1).bind fun t182 => (some (t182 == ((Go.bits .andNot .u64 a0 a1) == 0)))) else (none)) else ((crowd_Has.f (Go.bits .andNot .u64 a0 a1) a2).bind fun t183 => (if (t180 == t183) = true then ((crowd_Within.f a0 a1).bind fun t184 => (some (t184 == ((Go.bits .andNot .u64 a0 a1) == 0)))) else (none)))))) else (none))) else (none))) else (none))) else (none))))) else (none))) = some r := h
  clear h
  replace H := Option.bind_eq_some_iff.mp H
  obtain ⟨t173, A40, H⟩ := H
  replace H : (if t173 = true then ((crowd_Size.f (Go.bits .and .u64 a0 a1)).bind fun t174 => ((crowd_Size.f (Go.bits .andNot .u64 a0 a1)).bind fun t175 => ((crowd_Size.f a0).bind fun t176 => (if (wrap64 (t174 + t175)) = t176 then ((crowd_Within.f (Go.bits .and .u64 a0 a1) a0).bind fun t177 => (if t177 = true then ((crowd_Within.f (Go.bits .and .u64 a0 a1) a1).bind fun t178 => (if t178 = true then ((crowd_Within.f (Go.bits .andNot .u64 a0 a1) a0).bind fun t179 => (if t179 = true then ((crowd_Has.f a0 a2).bind fun t180 => ((crowd_Has.f (Go.bits .and .u64 a0 a1) a2).bind fun t181 => (if t181 = true then (if (t180 == true) = true then ((crowd_Within.f a0 a1).bind fun t182 => (some (t182 == ((Go.bits .andNot .u64 a0 a1) == 0)))) else (none)) else ((crowd_Has.f (Go.bits .andNot .u64 a0 a1) a2).bind fun t183 => (if (t180 == t183) = true then ((crowd_Within.f a0 a1).bind fun t184 => (some (t184 == ((Go.bits .andNot .u64 a0 a1) == 0)))) else (none)))))) else (none))) else (none))) else (none))) else (none))))) else (none)) = some r := H
  have A4 := Aside0.mk A40
  clear A40
  by_cases c5 : t173 = true
  · subst c5
    have H1 : ((crowd_Size.f (Go.bits .and .u64 a0 a1)).bind fun t174 => ((crowd_Size.f (Go.bits .andNot .u64 a0 a1)).bind fun t175 => ((crowd_Size.f a0).bind fun t176 => (if (wrap64 (t174 + t175)) = t176 then ((crowd_Within.f (Go.bits .and .u64 a0 a1) a0).bind fun t177 => (if t177 = true then ((crowd_Within.f (Go.bits .and .u64 a0 a1) a1).bind fun t178 => (if t178 = true then ((crowd_Within.f (Go.bits .andNot .u64 a0 a1) a0).bind fun t179 => (if t179 = true then ((crowd_Has.f a0 a2).bind fun t180 => ((crowd_Has.f (Go.bits .and .u64 a0 a1) a2).bind fun t181 => (if t181 = true then (if (t180 == true) = true then ((crowd_Within.f a0 a1).bind fun t182 => (some (t182 == ((Go.bits .andNot .u64 a0 a1) == 0)))) else (none)) else ((crowd_Has.f (Go.bits .andNot .u64 a0 a1) a2).bind fun t183 => (if (t180 == t183) = true then ((crowd_Within.f a0 a1).bind fun t184 => (some (t184 == ((Go.bits .andNot .u64 a0 a1) == 0)))) else (none)))))) else (none))) else (none))) else (none))) else (none))))) = some r := by rw [if_pos rfl] at H; exact H
    clear H
    have H := H1
    clear H1
    replace H := Option.bind_eq_some_iff.mp H
    obtain ⟨t174, A60, H⟩ := H
    replace H : ((crowd_Size.f (Go.bits .andNot .u64 a0 a1)).bind fun t175 => ((crowd_Size.f a0).bind fun t176 => (if (wrap64 (t174 + t175)) = t176 then ((crowd_Within.f (Go.bits .and .u64 a0 a1) a0).bind fun t177 => (if t177 = true then ((crowd_Within.f (Go.bits .and .u64 a0 a1) a1).bind fun t178 => (if t178 = true then ((crowd_Within.f (Go.bits .andNot .u64 a0 a1) a0).bind fun t179 => (if t179 = true then ((crowd_Has.f a0 a2).bind fun t180 => ((crowd_Has.f (Go.bits .and .u64 a0 a1) a2).bind fun t181 => (if t181 = true then (if (t180 == true) = true then ((crowd_Within.f a0 a1).bind fun t182 => (some (t182 == ((Go.bits .andNot .u64 a0 a1) == 0)))) else (none)) else ((crowd_Has.f (Go.bits .andNot .u64 a0 a1) a2).bind fun t183 => (if (t180 == t183) = true then ((crowd_Within.f a0 a1).bind fun t184 => (some (t184 == ((Go.bits .andNot .u64 a0 a1) == 0)))) else (none)))))) else (none))) else (none))) else (none))) else (none)))) = some r := H
    have A6 := Aside0.mk A60
    clear A60
    replace H := Option.bind_eq_some_iff.mp H
    obtain ⟨t175, A70, H⟩ := H
    replace H : ((crowd_Size.f a0).bind fun t176 => (if (wrap64 (t174 + t175)) = t176 then ((crowd_Within.f (Go.bits .and .u64 a0 a1) a0).bind fun t177 => (if t177 = true then ((crowd_Within.f (Go.bits .and .u64 a0 a1) a1).bind fun t178 => (if t178 = true then ((crowd_Within.f (Go.bits .andNot .u64 a0 a1) a0).bind fun t179 => (if t179 = true then ((crowd_Has.f a0 a2).bind fun t180 => ((crowd_Has.f (Go.bits .and .u64 a0 a1) a2).bind fun t181 => (if t181 = true then (if (t180 == true) = true then ((crowd_Within.f a0 a1).bind fun t182 => (some (t182 == ((Go.bits .andNot .u64 a0 a1) == 0)))) else (none)) else ((crowd_Has.f (Go.bits .andNot .u64 a0 a1) a2).bind fun t183 => (if (t180 == t183) = true then ((crowd_Within.f a0 a1).bind fun t184 => (some (t184 == ((Go.bits .andNot .u64 a0 a1) == 0)))) else (none)))))) else (none))) else (none))) else (none))) else (none))) = some r := H
    have A7 := Aside0.mk A70
    clear A70
    replace H := Option.bind_eq_some_iff.mp H
    obtain ⟨t176, A80, H⟩ := H
    replace H : (if (wrap64 (t174 + t175)) = t176 then ((crowd_Within.f (Go.bits .and .u64 a0 a1) a0).bind fun t177 => (if t177 = true then ((crowd_Within.f (Go.bits .and .u64 a0 a1) a1).bind fun t178 => (if t178 = true then ((crowd_Within.f (Go.bits .andNot .u64 a0 a1) a0).bind fun t179 => (if t179 = true then ((crowd_Has.f a0 a2).bind fun t180 => ((crowd_Has.f (Go.bits .and .u64 a0 a1) a2).bind fun t181 => (if t181 = true then (if (t180 == true) = true then ((crowd_Within.f a0 a1).bind fun t182 => (some (t182 == ((Go.bits .andNot .u64 a0 a1) == 0)))) else (none)) else ((crowd_Has.f (Go.bits .andNot .u64 a0 a1) a2).bind fun t183 => (if (t180 == t183) = true then ((crowd_Within.f a0 a1).bind fun t184 => (some (t184 == ((Go.bits .andNot .u64 a0 a1) == 0)))) else (none)))))) else (none))) else (none))) else (none))) else (none)) = some r := H
    have A8 := Aside0.mk A80
    clear A80
    by_cases c9 : (wrap64 (t174 + t175)) = t176
    · rw [if_pos c9] at H
      have c9b0 : ((wrap64 (t174 + t175)) == t176) = true := beq_iff_eq.mpr c9
      have c9b1 : ((wrap64 (t174 + t175)) != t176) = false := bne_eq_false_iff_eq.mpr c9
      clear c9
      replace H := Option.bind_eq_some_iff.mp H
      obtain ⟨t177, A100, H⟩ := H
      replace H : (if t177 = true then ((crowd_Within.f (Go.bits .and .u64 a0 a1) a1).bind fun t178 => (if t178 = true then ((crowd_Within.f (Go.bits .andNot .u64 a0 a1) a0).bind fun t179 => (if t179 = true then ((crowd_Has.f a0 a2).bind fun t180 => ((crowd_Has.f (Go.bits .and .u64 a0 a1) a2).bind fun t181 => (if t181 = true then (if (t180 == true) = true then ((crowd_Within.f a0 a1).bind fun t182 => (some (t182 == ((Go.bits .andNot .u64 a0 a1) == 0)))) else (none)) else ((crowd_Has.f (Go.bits .andNot .u64 a0 a1) a2).bind fun t183 => (if (t180 == t183) = true then ((crowd_Within.f a0 a1).bind fun t184 => (some (t184 == ((Go.bits .andNot .u64 a0 a1) == 0)))) else (none)))))) else (none))) else (none))) else (none)) = some r := H
      have A10 := Aside0.mk A100
      clear A100
      by_cases c11 : t177 = true
      · subst c11
        have H1 : ((crowd_Within.f (Go.bits .and .u64 a0 a1) a1).bind fun t178 => (if t178 = true then ((crowd_Within.f (Go.bits .andNot .u64 a0 a1) a0).bind fun t179 => (if t179 = true then ((crowd_Has.f a0 a2).bind fun t180 => ((crowd_Has.f (Go.bits .and .u64 a0 a1) a2).bind fun t181 => (if t181 = true then (if (t180 == true) = true then ((crowd_Within.f a0 a1).bind fun t182 => (some (t182 == ((Go.bits .andNot .u64 a0 a1) == 0)))) else (none)) else ((crowd_Has.f (Go.bits .andNot .u64 a0 a1) a2).bind fun t183 => (if (t180 == t183) = true then ((crowd_Within.f a0 a1).bind fun t184 => (some (t184 == ((Go.bits .andNot .u64 a0 a1) == 0)))) else (none)))))) else (none))) else (none))) = some r := by rw [if_pos rfl] at H; exact H
        clear H
        have H := H1
        clear H1
        replace H := Option.bind_eq_some_iff.mp H
        obtain ⟨t178, A120, H⟩ := H
        replace H : (if t178 = true then ((crowd_Within.f (Go.bits .andNot .u64 a0 a1) a0).bind fun t179 => (if t179 = true then ((crowd_Has.f a0 a2).bind fun t180 => ((crowd_Has.f (Go.bits .and .u64 a0 a1) a2).bind fun t181 => (if t181 = true then (if (t180 == true) = true then ((crowd_Within.f a0 a1).bind fun t182 => (some (t182 == ((Go.bits .andNot .u64 a0 a1) == 0)))) else (none)) else ((crowd_Has.f (Go.bits .andNot .u64 a0 a1) a2).bind fun t183 => (if (t180 == t183) = true then ((crowd_Within.f a0 a1).bind fun t184 => (some (t184 == ((Go.bits .andNot .u64 a0 a1) == 0)))) else (none)))))) else (none))) else (none)) = some r := H
        have A12 := Aside0.mk A120
        clear A120
        by_cases c13 : t178 = true
        · subst c13
          have H1 : ((crowd_Within.f (Go.bits .andNot .u64 a0 a1) a0).bind fun t179 => (if t179 = true then ((crowd_Has.f a0 a2).bind fun t180 => ((crowd_Has.f (Go.bits .and .u64 a0 a1) a2).bind fun t181 => (if t181 = true then (if (t180 == true) = true then ((crowd_Within.f a0 a1).bind fun t182 => (some (t182 == ((Go.bits .andNot .u64 a0 a1) == 0)))) else (none)) else ((crowd_Has.f (Go.bits .andNot .u64 a0 a1) a2).bind fun t183 => (if (t180 == t183) = true then ((crowd_Within.f a0 a1).bind fun t184 => (some (t184 == ((Go.bits .andNot .u64 a0 a1) == 0)))) else (none)))))) else (none))) = some r := by rw [if_pos rfl] at H; exact H
          clear H
          have H := H1
          clear H1
          replace H := Option.bind_eq_some_iff.mp H
          obtain ⟨t179, A140, H⟩ := H
          replace H : (if t179 = true then ((crowd_Has.f a0 a2).bind fun t180 => ((crowd_Has.f (Go.bits .and .u64 a0 a1) a2).bind fun t181 => (if t181 = true then (if (t180 == true) = true then ((crowd_Within.f a0 a1).bind fun t182 => (some (t182 == ((Go.bits .andNot .u64 a0 a1) == 0)))) else (none)) else ((crowd_Has.f (Go.bits .andNot .u64 a0 a1) a2).bind fun t183 => (if (t180 == t183) = true then ((crowd_Within.f a0 a1).bind fun t184 => (some (t184 == ((Go.bits .andNot .u64 a0 a1) == 0)))) else (none)))))) else (none)) = some r := H
          have A14 := Aside0.mk A140
          clear A140
          by_cases c15 : t179 = true
          · subst c15
            have H1 : ((crowd_Has.f a0 a2).bind fun t180 => ((crowd_Has.f (Go.bits .and .u64 a0 a1) a2).bind fun t181 => (if t181 = true then (if (t180 == true) = true then ((crowd_Within.f a0 a1).bind fun t182 => (some (t182 == ((Go.bits .andNot .u64 a0 a1) == 0)))) else (none)) else ((crowd_Has.f (Go.bits .andNot .u64 a0 a1) a2).bind fun t183 => (if (t180 == t183) = true then ((crowd_Within.f a0 a1).bind fun t184 => (some (t184 == ((Go.bits .andNot .u64 a0 a1) == 0)))) else (none)))))) = some r := by rw [if_pos rfl] at H; exact H
            clear H
            have H := H1
            clear H1
            replace H := Option.bind_eq_some_iff.mp H
            obtain ⟨t180, A160, H⟩ := H
            replace H : ((crowd_Has.f (Go.bits .and .u64 a0 a1) a2).bind fun t181 => (if t181 = true then (if (t180 == true) = true then ((crowd_Within.f a0 a1).bind fun t182 => (some (t182 == ((Go.bits .andNot .u64 a0 a1) == 0)))) else (none)) else ((crowd_Has.f (Go.bits .andNot .u64 a0 a1) a2).bind fun t183 => (if (t180 == t183) = true then ((crowd_Within.f a0 a1).bind fun t184 => (some (t184 == ((Go.bits .andNot .u64 a0 a1) == 0)))) else (none))))) = some r := H
            have A16 := Aside0.mk A160
            clear A160
            replace H := Option.bind_eq_some_iff.mp H
            obtain ⟨t181, A170, H⟩ := H
            replace H : (if t181 = true then (if (t180 == true) = true then ((crowd_Within.f a0 a1).bind fun t182 => (some (t182 == ((Go.bits .andNot .u64 a0 a1) == 0)))) else (none)) else ((crowd_Has.f (Go.bits .andNot .u64 a0 a1) a2).bind fun t183 => (if (t180 == t183) = true then ((crowd_Within.f a0 a1).bind fun t184 => (some (t184 == ((Go.bits .andNot .u64 a0 a1) == 0)))) else (none)))) = some r := H
            have A17 := Aside0.mk A170
            clear A170
            by_cases c18 : t181 = true
            · subst c18
              have H1 : (if (t180 == true) = true then ((crowd_Within.f a0 a1).bind fun t182 => (some (t182 == ((Go.bits .andNot .u64 a0 a1) == 0)))) else (none)) = some r := by rw [if_pos rfl] at H; exact H
              clear H
              have H := H1
              clear H1
              by_cases c19 : (t180 == true) = true
              · rw [if_pos c19] at H
                have c19b0 : (t180 == true) = true := c19
                (try (have c19b1 : decide (t180 = true) = true := by first | decide | simpa using c19))
                (try (have c19b2 : (t180 == true) = true := by first | decide | simpa using c19))
                clear c19
                replace H := Option.bind_eq_some_iff.mp H
                obtain ⟨t182, A200, H⟩ := H
                replace H : (some (t182 == ((Go.bits .andNot .u64 a0 a1) == 0))) = some r := H
                have A20 := Aside0.mk A200
                clear A200
                obtain rfl := Option.some.inj H
                go_enter Tryd.func7, Tryd.ntmps7
                go_wp2_with (first | ((with_reducible refine gate_callee (f := 9) rfl ?_); refine goesL_ (some 15) rfl rfl Tryd.func9 (by kernel_rfl) rfl #[] rfl (by (try simp only [List.map_toArray, List.map_cons, List.map_nil]); first | done | rfl | (simp only [List.length_drop, List.length_take]; rfl)) ?_; (with_reducible refine (offertorylaw18_awake.calls k  true _ (HTab.out.step (by repeat (first | (with_reducible first | exact HB.out | apply below_alloc | apply pw_below_drewN | apply below_drew1) | exact HB.out))) A4.out).mono ?_); rintro e w21 ⟨rfl, hb⟩; refine ⟨_, rfl, ?_⟩; have n0_ := Aside0.mk (below_step (by repeat (first | (with_reducible first | exact HB.out | apply below_alloc | apply pw_below_drewN | apply below_drew1) | exact HB.out)) hb); clear HB; have HB := n0_; clear n0_; (try clear hb); (try clear hb2); (try clear hk); (try clear hi)) | (go_at_call 10; (with_reducible refine (crowd_Size.calls (Go.bits .and .u64 a0 a1) t174 _ A6.out).mono ?_); rintro e w' ⟨rfl, ⟨nd, rfl⟩⟩) | (go_at_call 10; (with_reducible refine (crowd_Size.calls (Go.bits .andNot .u64 a0 a1) t175 _ A7.out).mono ?_); rintro e w' ⟨rfl, ⟨nd, rfl⟩⟩) | (go_at_call 10; (with_reducible refine (crowd_Size.calls a0 t176 _ A8.out).mono ?_); rintro e w' ⟨rfl, ⟨nd, rfl⟩⟩) | (go_at_call 15; (with_reducible refine (crowd_Within.calls (Go.bits .and .u64 a0 a1) a0 true _ A10.out).mono ?_); rintro e w' ⟨rfl, ⟨nd, rfl⟩⟩) | (go_at_call 15; (with_reducible refine (crowd_Within.calls (Go.bits .and .u64 a0 a1) a1 true _ A12.out).mono ?_); rintro e w' ⟨rfl, ⟨nd, rfl⟩⟩) | (go_at_call 15; (with_reducible refine (crowd_Within.calls (Go.bits .andNot .u64 a0 a1) a0 true _ A14.out).mono ?_); rintro e w' ⟨rfl, ⟨nd, rfl⟩⟩) | (go_at_call 11; (with_reducible refine (crowd_Has.calls a0 a2 t180 _ A16.out).mono ?_); rintro e w' ⟨rfl, ⟨nd, rfl⟩⟩) | (go_at_call 11; (with_reducible refine (crowd_Has.calls (Go.bits .and .u64 a0 a1) a2 true _ A17.out).mono ?_); rintro e w' ⟨rfl, ⟨nd, rfl⟩⟩) | (go_at_call 15; (with_reducible refine (crowd_Within.calls a0 a1 t182 _ A20.out).mono ?_); rintro e w' ⟨rfl, ⟨nd, rfl⟩⟩))
                go_ret
                exact ⟨by first | rfl | (simp [errW_none, errW_some] <;> rfl) | (simp [*, errW_none, errW_some] <;> rfl), by repeat (first | (with_reducible first | exact HB.out | apply below_alloc | apply pw_below_drewN | apply below_drew1) | exact HB.out)⟩
              · rw [if_neg c19] at H
                exact absurd H (by simp)
            · replace c18 := Bool.eq_false_iff.mpr c18
              subst c18
              have H1 : ((crowd_Has.f (Go.bits .andNot .u64 a0 a1) a2).bind fun t183 => (if (t180 == t183) = true then ((crowd_Within.f a0 a1).bind fun t184 => (some (t184 == ((Go.bits .andNot .u64 a0 a1) == 0)))) else (none))) = some r := by rw [if_neg (show ¬ (false = true) by decide)] at H; exact H
              clear H
              have H := H1
              clear H1
              replace H := Option.bind_eq_some_iff.mp H
              obtain ⟨t183, A220, H⟩ := H
              replace H : (if (t180 == t183) = true then ((crowd_Within.f a0 a1).bind fun t184 => (some (t184 == ((Go.bits .andNot .u64 a0 a1) == 0)))) else (none)) = some r := H
              have A22 := Aside0.mk A220
              clear A220
              by_cases c23 : (t180 == t183) = true
              · rw [if_pos c23] at H
                have c23b0 : (t180 == t183) = true := c23
                (try (have c23b1 : decide (t180 = t183) = true := by first | decide | simpa using c23))
                (try (have c23b2 : (t180 == t183) = true := by first | decide | simpa using c23))
                clear c23
                replace H := Option.bind_eq_some_iff.mp H
                obtain ⟨t184, A240, H⟩ := H
                replace H : (some (t184 == ((Go.bits .andNot .u64 a0 a1) == 0))) = some r := H
                have A24 := Aside0.mk A240
                clear A240
                obtain rfl := Option.some.inj H
                go_enter Tryd.func7, Tryd.ntmps7
                go_wp2_with (first | ((with_reducible refine gate_callee (f := 9) rfl ?_); refine goesL_ (some 15) rfl rfl Tryd.func9 (by kernel_rfl) rfl #[] rfl (by (try simp only [List.map_toArray, List.map_cons, List.map_nil]); first | done | rfl | (simp only [List.length_drop, List.length_take]; rfl)) ?_; (with_reducible refine (offertorylaw18_awake.calls k  true _ (HTab.out.step (by repeat (first | (with_reducible first | exact HB.out | apply below_alloc | apply pw_below_drewN | apply below_drew1) | exact HB.out))) A4.out).mono ?_); rintro e w25 ⟨rfl, hb⟩; refine ⟨_, rfl, ?_⟩; have n0_ := Aside0.mk (below_step (by repeat (first | (with_reducible first | exact HB.out | apply below_alloc | apply pw_below_drewN | apply below_drew1) | exact HB.out)) hb); clear HB; have HB := n0_; clear n0_; (try clear hb); (try clear hb2); (try clear hk); (try clear hi)) | (go_at_call 10; (with_reducible refine (crowd_Size.calls (Go.bits .and .u64 a0 a1) t174 _ A6.out).mono ?_); rintro e w' ⟨rfl, ⟨nd, rfl⟩⟩) | (go_at_call 10; (with_reducible refine (crowd_Size.calls (Go.bits .andNot .u64 a0 a1) t175 _ A7.out).mono ?_); rintro e w' ⟨rfl, ⟨nd, rfl⟩⟩) | (go_at_call 10; (with_reducible refine (crowd_Size.calls a0 t176 _ A8.out).mono ?_); rintro e w' ⟨rfl, ⟨nd, rfl⟩⟩) | (go_at_call 15; (with_reducible refine (crowd_Within.calls (Go.bits .and .u64 a0 a1) a0 true _ A10.out).mono ?_); rintro e w' ⟨rfl, ⟨nd, rfl⟩⟩) | (go_at_call 15; (with_reducible refine (crowd_Within.calls (Go.bits .and .u64 a0 a1) a1 true _ A12.out).mono ?_); rintro e w' ⟨rfl, ⟨nd, rfl⟩⟩) | (go_at_call 15; (with_reducible refine (crowd_Within.calls (Go.bits .andNot .u64 a0 a1) a0 true _ A14.out).mono ?_); rintro e w' ⟨rfl, ⟨nd, rfl⟩⟩) | (go_at_call 11; (with_reducible refine (crowd_Has.calls a0 a2 t180 _ A16.out).mono ?_); rintro e w' ⟨rfl, ⟨nd, rfl⟩⟩) | (go_at_call 11; (with_reducible refine (crowd_Has.calls (Go.bits .and .u64 a0 a1) a2 false _ A17.out).mono ?_); rintro e w' ⟨rfl, ⟨nd, rfl⟩⟩) | (go_at_call 11; (with_reducible refine (crowd_Has.calls (Go.bits .andNot .u64 a0 a1) a2 t183 _ A22.out).mono ?_); rintro e w' ⟨rfl, ⟨nd, rfl⟩⟩) | (go_at_call 15; (with_reducible refine (crowd_Within.calls a0 a1 t184 _ A24.out).mono ?_); rintro e w' ⟨rfl, ⟨nd, rfl⟩⟩))
                go_ret
                exact ⟨by first | rfl | (simp [errW_none, errW_some] <;> rfl) | (simp [*, errW_none, errW_some] <;> rfl), by repeat (first | (with_reducible first | exact HB.out | apply below_alloc | apply pw_below_drewN | apply below_drew1) | exact HB.out)⟩
              · rw [if_neg c23] at H
                exact absurd H (by simp)
          · replace c15 := Bool.eq_false_iff.mpr c15
            subst c15
            have H1 : (none) = some r := by rw [if_neg (show ¬ (false = true) by decide)] at H; exact H
            clear H
            have H := H1
            clear H1
            exact absurd H (by simp)
        · replace c13 := Bool.eq_false_iff.mpr c13
          subst c13
          have H1 : (none) = some r := by rw [if_neg (show ¬ (false = true) by decide)] at H; exact H
          clear H
          have H := H1
          clear H1
          exact absurd H (by simp)
      · replace c11 := Bool.eq_false_iff.mpr c11
        subst c11
        have H1 : (none) = some r := by rw [if_neg (show ¬ (false = true) by decide)] at H; exact H
        clear H
        have H := H1
        clear H1
        exact absurd H (by simp)
    · rw [if_neg c9] at H
      exact absurd H (by simp)
  · replace c5 := Bool.eq_false_iff.mpr c5
    subst c5
    have H1 : (none) = some r := by rw [if_neg (show ¬ (false = true) by decide)] at H; exact H
    clear H
    have H := H1
    clear H1
    exact absurd H (by simp)

end Go.Proofs.YtegifiagobienaaDoor.PAll
