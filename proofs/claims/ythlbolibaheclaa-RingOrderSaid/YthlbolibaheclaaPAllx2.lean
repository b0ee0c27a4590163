/- The Go functions that the laws reach, as Lean functions, and that each call comes to what its function says. Written by a program of this session (a turned copy of the kit's print). No condition beyond those that each theorem states. -/
import Derived.Test.YthlbolibaheclaaPAllx0
import Derived.Test.YthlbolibaheclaaPAllx1
namespace Go.Proofs.Ythlbolibaheclaa.PAll
open Go.RowKit Go.Proofs.YthlbolibaheclaaW.PrintWords Go.Proofs.YthlbolibaheclaaW.PrintLast Go.Proofs.YthlbolibaheclaaW.PrintMore
attribute [local go_sem] max2_int min2_int max_two min_two max_three min_three max_four min_four   -- for this text's walks alone
set_option linter.unusedVariables false
set_option linter.unusedSimpArgs false

/-! ### ring_Sum: function 10 -/
mutual
def ring_Sum.l0 : Nat → Int → List (List Int) → List (List Int) → Int → Int → Option (List Int × Int)
  | 0, _, _, _, _, _ => none
  | k + 1, x0, x1, x15, x16, x17 => if x17 < x16 then (if 0 ≤ x17 then (if x17 < (x15.length : Int) then (if ((rd_L1 x15 x17).length : Int) = x0 then (ring_Sum.l0 k x0 x1 x15 x16 (wrap64 (x17 + 1))) else (some (([] : List Int), 1))) else (none)) else (none)) else (ring_Sum.l1 k x1 (([] : List Int)) x0 0)
def ring_Sum.l1 : Nat → List (List Int) → List Int → Int → Int → Option (List Int × Int)
  | 0, _, _, _, _ => none
  | k + 1, x1, x8, x27, x28 => if x28 < x27 then (ring_Sum.l2 k x1 x8 x28 0 x27 x28 x1 (x1.length : Int) 0) else (some (x8, 0))
def ring_Sum.l2 : Nat → List (List Int) → List Int → Int → Int → Int → Int → List (List Int) → Int → Int → Option (List Int × Int)
  | 0, _, _, _, _, _, _, _, _, _ => none
  | k + 1, x1, x8, x9, x10, x27, x28, x31, x32, x33 => if x33 < x32 then (if 0 ≤ x33 then (if x33 < (x31.length : Int) then (if 0 ≤ x9 then (if x9 < ((rd_L1 x31 x33).length : Int) then ((ring_cell_plus.f x10 (rd (rd_L1 x31 x33) x9)).bind fun t129 => (ring_Sum.l2 k x1 x8 x9 t129 x27 x28 x31 x32 (wrap64 (x33 + 1)))) else (none)) else (none)) else (none)) else (none)) else (if x8.length < 35184372088832 then (ring_Sum.l1 k x1 (x8 ++ [x10]) x27 (wrap64 (x28 + 1))) else (none))
end
def ring_Sum.f (k : Nat) (a0 : Int) (l1 : List (List Int)) : Option (List Int × Int) := if a0 < 0 then (some (([] : List Int), 1)) else (ring_Sum.l0 k a0 l1 l1 (l1.length : Int) 0)
theorem ring_Sum.mono_l : ∀ k, (∀ y0 y1 y2 y3 y4, LeO (ring_Sum.l0 k y0 y1 y2 y3 y4) (ring_Sum.l0 (k + 1) y0 y1 y2 y3 y4)) ∧ (∀ y0 y1 y2 y3, LeO (ring_Sum.l1 k y0 y1 y2 y3) (ring_Sum.l1 (k + 1) y0 y1 y2 y3)) ∧ (∀ y0 y1 y2 y3 y4 y5 y6 y7 y8, LeO (ring_Sum.l2 k y0 y1 y2 y3 y4 y5 y6 y7 y8) (ring_Sum.l2 (k + 1) y0 y1 y2 y3 y4 y5 y6 y7 y8))
  | 0 => ⟨fun _ _ _ _ _ r h => by simp [ring_Sum.l0] at h, fun _ _ _ _ r h => by simp [ring_Sum.l1] at h, fun _ _ _ _ _ _ _ _ _ r h => by simp [ring_Sum.l2] at h⟩
  | k + 1 => by
    obtain ⟨ih0, ih1, ih2⟩ := ring_Sum.mono_l k
    refine ⟨?_, ?_, ?_⟩
    · intro y0 y1 y2 y3 y4
      unfold ring_Sum.l0
      repeat' first
      | (with_reducible exact ih0 _ _ _ _ _)
      | (with_reducible exact ih1 _ _ _ _)
      | (with_reducible exact ih2 _ _ _ _ _ _ _ _ _)
      | (with_reducible exact LeO.refl _)
      | (with_reducible exact LeO.none _)
      | (with_reducible refine LeO.ite ?_ ?_)
      | (with_reducible refine LeO.bind ?_ (fun _ => ?_))
      | exact ih0 _ _ _ _ _
      | exact ih1 _ _ _ _
      | exact ih2 _ _ _ _ _ _ _ _ _
      | exact LeO.none _
      | refine LeO.ite ?_ ?_
      | refine LeO.bind ?_ (fun _ => ?_)
    · intro y0 y1 y2 y3
      unfold ring_Sum.l1
      repeat' first
      | (with_reducible exact ih0 _ _ _ _ _)
      | (with_reducible exact ih1 _ _ _ _)
      | (with_reducible exact ih2 _ _ _ _ _ _ _ _ _)
      | (with_reducible exact LeO.refl _)
      | (with_reducible exact LeO.none _)
      | (with_reducible refine LeO.ite ?_ ?_)
      | (with_reducible refine LeO.bind ?_ (fun _ => ?_))
      | exact ih0 _ _ _ _ _
      | exact ih1 _ _ _ _
      | exact ih2 _ _ _ _ _ _ _ _ _
      | exact LeO.none _
      | refine LeO.ite ?_ ?_
      | refine LeO.bind ?_ (fun _ => ?_)
    · intro y0 y1 y2 y3 y4 y5 y6 y7 y8
      unfold ring_Sum.l2
      repeat' first
      | (with_reducible exact ih0 _ _ _ _ _)
      | (with_reducible exact ih1 _ _ _ _)
      | (with_reducible exact ih2 _ _ _ _ _ _ _ _ _)
      | (with_reducible exact LeO.refl _)
      | (with_reducible exact LeO.none _)
      | (with_reducible refine LeO.ite ?_ ?_)
      | (with_reducible refine LeO.bind ?_ (fun _ => ?_))
      | exact ih0 _ _ _ _ _
      | exact ih1 _ _ _ _
      | exact ih2 _ _ _ _ _ _ _ _ _
      | exact LeO.none _
      | refine LeO.ite ?_ ?_
      | refine LeO.bind ?_ (fun _ => ?_)
theorem ring_Sum.mono : ∀ a0 a1 k, LeO (ring_Sum.f k a0 a1) (ring_Sum.f (k + 1) a0 a1) := by
  intro a0 a1 k
  obtain ⟨ih0, ih1, ih2⟩ := ring_Sum.mono_l k
  unfold ring_Sum.f
  repeat' first
      | (with_reducible exact ih0 _ _ _ _ _)
      | (with_reducible exact ih1 _ _ _ _)
      | (with_reducible exact ih2 _ _ _ _ _ _ _ _ _)
      | (with_reducible exact LeO.refl _)
      | (with_reducible exact LeO.none _)
      | (with_reducible refine LeO.ite ?_ ?_)
      | (with_reducible refine LeO.bind ?_ (fun _ => ?_))
      | exact ih0 _ _ _ _ _
      | exact ih1 _ _ _ _
      | exact ih2 _ _ _ _ _ _ _ _ _
      | exact LeO.none _
      | refine LeO.ite ?_ ?_
      | refine LeO.bind ?_ (fun _ => ?_)
set_option maxHeartbeats 8000000 in
set_option maxRecDepth 100000 in
theorem ring_Sum.calls (k : Nat) (a0 : Int) (A1 : Option Addr) (c1 : Nat) (l1 : List (List Int)) (r1 : List Int) (r2 : Int) (w : World) (hr1 : Kd.C (Kd.slice 28 (Kd.int .u32)) w A1 l1.length l1) (hc1 : l1.length ≤ c1) (h : ring_Sum.f k a0 l1 = some (r1, r2)) :
    Calls Try.prog 10 #[.int .i64 a0, .slice A1 l1.length c1] w fun e w' => ∃ v0_ : Value, e = .returned (.tuple #[v0_, .int .i64 r2]) ∧ Kd.R (Kd.int .u32) 28 w' w.heap.size (fun _ => True) v0_ r1 ∧ Below w.heap.size w w' := by
  have HR1 := Aside0.mk hr1
  have HC1 := Aside0.mk hc1
  clear hr1 hc1
  have HB := Aside0.mk (Below.refl w.heap.size w)
  have H : (if a0 < 0 then (some (([] : List Int), 1)) else (ring_Sum.l0 k a0 l1 l1 (l1.length : Int) 0)) = some (r1, r2) := h
  clear h
  by_cases c3 : a0 < 0
  · rw [if_pos c3] at H
    have c3b0 : decide (a0 < 0) = true := decide_eq_true c3
    clear c3
    simp only [Option.some.injEq, Prod.mk.injEq] at H
    obtain ⟨rfl, rfl⟩ := H
    go_enter Try.func10, Try.ntmps10
    go_wp2
    go_ret2
    exact ⟨_, by first | rfl | (simp [errW_none, errW_some] <;> rfl) | (simp [*, errW_none, errW_some] <;> rfl), by first | exact Kd.R_nil _ _ _ _ _ | exact Kd.N_nil _ _ _ _ _ | exact Kd.V_nil _ _ _ _ _ | exact Kd.Q_nil _ _ _ _ _ | exact Kd.S_nil _ _ _ _ _, by repeat (first | (with_reducible first | exact HB.out | apply below_alloc | apply pw_below_drewN | apply below_drew1) | exact HB.out)⟩
  · rw [if_neg c3] at H
    have c3b0 : decide (a0 < 0) = false := decide_eq_false c3
    clear c3
    have H' := Aside0.mk H
    clear H
    go_enter Try.func10, Try.ntmps10
    go_wp2
    go_loopg [17] k (fun kq v17 w' => ∃ (x17_1 : Int), v17 = .int .i64 x17_1 ∧ Aside0 (ring_Sum.l0 kq a0 l1 l1 (l1.length : Int) x17_1 = some (r1, r2)) ∧ Aside0 (kq ≤ k) ∧ Aside0 (Below w.heap.size w w'))
    case atStart => exact ⟨(0), (by first | rfl | (simp; done) | (simp [*]; done)), H', ⟨Nat.le_refl _⟩, ⟨by repeat (first | (with_reducible first | exact HB.out | apply below_alloc | apply pw_below_drewN | apply below_drew1) | exact HB.out)⟩⟩
    case round =>
      clear H'
      try clear c1
      try clear p2
      try clear c3
      try clear c3b0
      obtain ⟨x17_1, rfl, HA, HK1, HB⟩ := hrel
      cases gk with
      | zero => exact absurd HA.out (by simp [ring_Sum.l0])
      | succ k1 =>
        have H := HA.out
        clear HA
        simp only [ring_Sum.l0] at H
        by_cases c4 : x17_1 < (l1.length : Int)
        · rw [if_pos c4] at H
          have c4b0 : decide (x17_1 < (l1.length : Int)) = true := decide_eq_true c4
          clear c4
          by_cases c5 : 0 ≤ x17_1
          · rw [if_pos c5] at H
            have c5b0 : decide (0 ≤ x17_1) = true := decide_eq_true c5
            clear c5
            by_cases c6 : x17_1 < (l1.length : Int)
            · rw [if_pos c6] at H
              have c6b0 : decide (x17_1 < (l1.length : Int)) = true := decide_eq_true c6
              clear c6
              by_cases c7 : ((rd_L1 l1 x17_1).length : Int) = a0
              · rw [if_pos c7] at H
                have c7b0 : (((rd_L1 l1 x17_1).length : Int) == a0) = true := beq_iff_eq.mpr c7
                have c7b1 : (((rd_L1 l1 x17_1).length : Int) != a0) = false := bne_eq_false_iff_eq.mpr c7
                clear c7
                have H' := Aside0.mk H
                clear H
                have p123 : 0 ≤ (x17_1 : Int) := of_decide_eq_true (by first | (with_reducible assumption) | assumption)
                have q123 : x17_1 < (l1.length : Int) := of_decide_eq_true (by first | (with_reducible assumption) | assumption)
                obtain ⟨ad123, A123_0, c123_0, e123, hx123_0, hl123_0, hi123_0⟩ := at_L1 HR1.out x17_1 p123 q123
                cases e123
                replace hx123_0 := (HB.out.cell (World.block_lt_of_cell? w _ hx123_0)).trans hx123_0
                have HR123_0 := Aside0.mk hi123_0
                have HC123_0 := Aside0.mk hl123_0
                clear hi123_0 hl123_0
                replace p123 := eq_true p123
                replace q123 := eq_true q123
                go_wp2
                go_roundg k1
                case measure => have := HK1.out; omega
                case rel => exact ⟨(wrap64 (x17_1 + 1)), (by first | rfl | (simp; done) | (simp [*]; done)), H', ⟨by have := HK1.out; omega⟩, ⟨by repeat (first | (with_reducible first | exact HB.out | apply below_alloc | apply pw_below_drewN | apply below_drew1) | exact HB.out)⟩⟩
              · rw [if_neg c7] at H
                have c7b0 : (((rd_L1 l1 x17_1).length : Int) == a0) = false := beq_eq_false_iff_ne.mpr c7
                have c7b1 : (((rd_L1 l1 x17_1).length : Int) != a0) = true := bne_iff_ne.mpr c7
                simp only [Option.some.injEq, Prod.mk.injEq] at H
                obtain ⟨rfl, rfl⟩ := H
                have p123 : 0 ≤ (x17_1 : Int) := of_decide_eq_true (by first | (with_reducible assumption) | assumption)
                have q123 : x17_1 < (l1.length : Int) := of_decide_eq_true (by first | (with_reducible assumption) | assumption)
                obtain ⟨ad123, A123_0, c123_0, e123, hx123_0, hl123_0, hi123_0⟩ := at_L1 HR1.out x17_1 p123 q123
                cases e123
                replace hx123_0 := (HB.out.cell (World.block_lt_of_cell? w _ hx123_0)).trans hx123_0
                have HR123_0 := Aside0.mk hi123_0
                have HC123_0 := Aside0.mk hl123_0
                clear hi123_0 hl123_0
                replace p123 := eq_true p123
                replace q123 := eq_true q123
                go_wp2
                go_ret2
                exact ⟨_, by first | rfl | (simp [errW_none, errW_some] <;> rfl) | (simp [*, errW_none, errW_some] <;> rfl), by first | exact Kd.R_nil _ _ _ _ _ | exact Kd.N_nil _ _ _ _ _ | exact Kd.V_nil _ _ _ _ _ | exact Kd.Q_nil _ _ _ _ _ | exact Kd.S_nil _ _ _ _ _, by repeat (first | (with_reducible first | exact HB.out | apply below_alloc | apply pw_below_drewN | apply below_drew1) | exact HB.out)⟩
            · rw [if_neg c6] at H
              exact absurd H (by simp)
          · rw [if_neg c5] at H
            exact absurd H (by simp)
        · rw [if_neg c4] at H
          have c4b0 : decide (x17_1 < (l1.length : Int)) = false := decide_eq_false c4
          clear c4
          obtain ⟨y124, hy124⟩ : ∃ y_ : List Int, y_ = (([] : List Int)) := ⟨_, rfl⟩
          replace H : (ring_Sum.l1 k1 l1 y124 a0 0) = some (r1, r2) := by first | (rw [hy124]; with_reducible exact H) | (have H2_ := (Option.bind_some _ _).symm.trans H; rw [hy124]; with_reducible exact H2_) | (have H2_ := (Option.bind_some _ _).symm.trans H; with_reducible exact H2_) | with_reducible exact H | (rw [hy124]; exact H) | exact H
          have Ny124 := Aside0.mk hy124
          clear hy124
          have H' := Aside0.mk H
          clear H
          go_wp2_with (first | ((with_reducible refine gate_dst (N := 26) rfl ?_); refine Kd.R_lit (Kd.int .u32) _ 28 ?hg (N := 26) ?hd (xs := ([] : List Int)) (inner := []) (ok := fun _ => True) (okp := fun _ => True) ?hr ?hp (fun _ hk => hk) trivial (Below.refl _ _) (Nat.le_refl _) (by simp) ?_; (case hd => rfl); (case hg => rfl); (case hr => first | (go_simp; done) | (go_simp; rfl)); (case hp => exact (Reps.none _ _)); intro v125 w8 ho9 hb hg_ hnew_; clear hg_ hnew_; (first | rw [← Ny124.out] at ho9 | (simp only [Int.reduceToNat] at ho9; rw [← Ny124.out] at ho9)); have n0_ := Aside0.mk (Kd.R_lower ho9 (below_size (by repeat (first | (with_reducible first | exact HB.out | apply below_alloc | apply pw_below_drewN | apply below_drew1) | exact HB.out)))); have n1_ := Aside0.mk (below_step (by repeat (first | (with_reducible first | exact HB.out | apply below_alloc | apply pw_below_drewN | apply below_drew1) | exact HB.out)) hb); clear HB; have HO126 := n0_; have HB := n1_; clear n0_ n1_; clear hb ho9))
          go_loopg [8, 28] k1 (fun kq v8 v28 w' => ∃ (x8_2 : List Int) (x28_2 : Int), v28 = .int .i64 x28_2 ∧ Aside0 (ring_Sum.l1 kq l1 x8_2 a0 x28_2 = some (r1, r2)) ∧ Aside0 (kq ≤ k1) ∧ Aside0 (Kd.R (Kd.int .u32) 28 w' w.heap.size (fun _ => True) v8 x8_2) ∧ Aside0 (Below w.heap.size w w'))
          case atStart => exact ⟨(y124), (0), (by first | rfl | (simp; done) | (simp [*]; done)), H', ⟨Nat.le_refl _⟩, ⟨by (with_reducible repeat (first | apply Kd.R_alloc | apply Kd.R_drewN | apply Kd.R_drew)); exact HO126.out⟩, ⟨by repeat (first | (with_reducible first | exact HB.out | apply below_alloc | apply pw_below_drewN | apply below_drew1) | exact HB.out)⟩⟩
          case round =>
            clear H'
            try clear c1
            try clear p1
            try clear q1
            try clear hx1
            try clear p2
            try clear c3
            try clear c3b0
            try clear c4
            try clear c4b0
            try clear c5
            try clear c5b0
            try clear c6
            try clear c6b0
            try clear p6
            try clear c7
            try clear c7b0
            try clear c7b1
            try clear hx123_0
            try clear p123
            try clear p2
            try clear q123
            obtain ⟨x8_2, x28_2, rfl, HA, HK2, HO_8, HB⟩ := hrel
            cases gk with
            | zero => exact absurd HA.out (by simp [ring_Sum.l1])
            | succ k2 =>
              have H := HA.out
              clear HA
              simp only [ring_Sum.l1] at H
              by_cases c10 : x28_2 < a0
              · rw [if_pos c10] at H
                have c10b0 : decide (x28_2 < a0) = true := decide_eq_true c10
                clear c10
                have H' := Aside0.mk H
                clear H
                go_wp2
                go_loopg [10, 33] k2 (fun kq v10 v33 w' => ∃ (x10_3 : Int) (x33_3 : Int), v10 = .int .u32 x10_3 ∧ v33 = .int .i64 x33_3 ∧ Aside0 (ring_Sum.l2 kq l1 x8_2 x28_2 x10_3 a0 x28_2 l1 (l1.length : Int) x33_3 = some (r1, r2)) ∧ Aside0 (kq ≤ k2) ∧ Aside0 (Kd.R (Kd.int .u32) 28 w' w.heap.size (fun _ => True) u8 x8_2) ∧ Aside0 (Below w.heap.size w w'))
                case atStart => exact ⟨(0), (0), (by first | rfl | (simp; done) | (simp [*]; done)), (by first | rfl | (simp; done) | (simp [*]; done)), H', ⟨Nat.le_refl _⟩, ⟨by (with_reducible repeat (first | apply Kd.R_alloc | apply Kd.R_drewN | apply Kd.R_drew)); exact HO_8.out⟩, ⟨by repeat (first | (with_reducible first | exact HB.out | apply below_alloc | apply pw_below_drewN | apply below_drew1) | exact HB.out)⟩⟩
                case round =>
                  clear H'
                  try clear c1
                  try clear p1
                  try clear q1
                  try clear hx1
                  try clear p2
                  try clear c3
                  try clear c3b0
                  try clear c4
                  try clear c4b0
                  try clear c5
                  try clear c5b0
                  try clear c6
                  try clear c6b0
                  try clear p6
                  try clear c7
                  try clear c7b0
                  try clear c7b1
                  try clear c10
                  try clear c10b0
                  try clear hx123_0
                  try clear p1
                  try clear p123
                  try clear p2
                  try clear p6
                  try clear q1
                  try clear q123
                  obtain ⟨x10_3, x33_3, rfl, rfl, HA, HK3, HO_8, HB⟩ := hrel
                  cases gk with
                  | zero => exact absurd HA.out (by simp [ring_Sum.l2])
                  | succ k3 =>
                    have H := HA.out
                    clear HA
                    simp only [ring_Sum.l2] at H
                    by_cases c11 : x33_3 < (l1.length : Int)
                    · rw [if_pos c11] at H
                      have c11b0 : decide (x33_3 < (l1.length : Int)) = true := decide_eq_true c11
                      clear c11
                      by_cases c12 : 0 ≤ x33_3
                      · rw [if_pos c12] at H
                        have c12b0 : decide (0 ≤ x33_3) = true := decide_eq_true c12
                        clear c12
                        by_cases c13 : x33_3 < (l1.length : Int)
                        · rw [if_pos c13] at H
                          have c13b0 : decide (x33_3 < (l1.length : Int)) = true := decide_eq_true c13
                          clear c13
                          by_cases c14 : 0 ≤ x28_2
                          · rw [if_pos c14] at H
                            have c14b0 : decide (0 ≤ x28_2) = true := decide_eq_true c14
                            clear c14
                            by_cases c15 : x28_2 < ((rd_L1 l1 x33_3).length : Int)
                            · rw [if_pos c15] at H
                              have c15b0 : decide (x28_2 < ((rd_L1 l1 x33_3).length : Int)) = true := decide_eq_true c15
                              clear c15
                              replace H := Option.bind_eq_some_iff.mp H
                              obtain ⟨t129, A160, H⟩ := H
                              replace H : (ring_Sum.l2 k3 l1 x8_2 x28_2 t129 a0 x28_2 l1 (l1.length : Int) (wrap64 (x33_3 + 1))) = some (r1, r2) := H
                              have A16 := Aside0.mk A160
                              clear A160
                              have H' := Aside0.mk H
                              clear H
                              have p127 : 0 ≤ (x33_3 : Int) := of_decide_eq_true (by first | (with_reducible assumption) | assumption)
                              have q127 : x33_3 < (l1.length : Int) := of_decide_eq_true (by first | (with_reducible assumption) | assumption)
                              obtain ⟨ad127, A127_0, c127_0, e127, hx127_0, hl127_0, hi127_0⟩ := at_L1 HR1.out x33_3 p127 q127
                              cases e127
                              replace hx127_0 := (HB.out.cell (World.block_lt_of_cell? w _ hx127_0)).trans hx127_0
                              have HR127_0 := Aside0.mk hi127_0
                              have HC127_0 := Aside0.mk hl127_0
                              clear hi127_0 hl127_0
                              replace p127 := eq_true p127
                              replace q127 := eq_true q127
                              have p128 : 0 ≤ (x28_2 : Int) := of_decide_eq_true (by first | (with_reducible assumption) | assumption)
                              have q128 : x28_2 < ((rd_L1 l1 x33_3).length : Int) := of_decide_eq_true (by first | (with_reducible assumption) | assumption)
                              obtain ⟨ad128, e128, hx128_0⟩ := Kd.at_int HR127_0.out x28_2 p128 q128
                              cases e128
                              replace hx128_0 := (HB.out.cell (World.block_lt_of_cell? w _ hx128_0)).trans hx128_0
                              replace p128 := eq_true p128
                              replace q128 := eq_true q128
                              go_wp2_with (first | ((with_reducible refine gate_callee (f := 14) rfl ?_); refine goesL_ (some 42) rfl rfl Try.func14 (by kernel_rfl) rfl #[.int .u32 x10_3, .int .u32 (rd (rd_L1 l1 x33_3) x28_2)] rfl (by (try simp only [List.map_toArray, List.map_cons, List.map_nil]); first | done | rfl | (simp only [List.length_drop, List.length_take]; rfl)) ?_; (with_reducible refine (ring_cell_plus.calls x10_3 (rd (rd_L1 l1 x33_3) x28_2) t129 _ A16.out).mono ?_); rintro e w' ⟨rfl, ⟨nd, rfl⟩⟩; refine ⟨_, rfl, ?_⟩))
                              go_roundg k3
                              case measure => have := HK1.out; have := HK2.out; have := HK3.out; omega
                              case rel => exact ⟨(t129), (wrap64 (x33_3 + 1)), (by first | rfl | (simp; done) | (simp [*]; done)), (by first | rfl | (simp; done) | (simp [*]; done)), H', ⟨by have := HK1.out; have := HK2.out; have := HK3.out; omega⟩, ⟨by (with_reducible repeat (first | apply Kd.R_alloc | apply Kd.R_drewN | apply Kd.R_drew)); exact HO_8.out⟩, ⟨by repeat (first | (with_reducible first | exact HB.out | apply below_alloc | apply pw_below_drewN | apply below_drew1) | exact HB.out)⟩⟩
                            · rw [if_neg c15] at H
                              exact absurd H (by simp)
                          · rw [if_neg c14] at H
                            exact absurd H (by simp)
                        · rw [if_neg c13] at H
                          exact absurd H (by simp)
                      · rw [if_neg c12] at H
                        exact absurd H (by simp)
                    · rw [if_neg c11] at H
                      have c11b0 : decide (x33_3 < (l1.length : Int)) = false := decide_eq_false c11
                      clear c11
                      by_cases c17 : x8_2.length < 35184372088832
                      · rw [if_pos c17] at H
                        have LMc17 := Aside0.mk c17
                        clear c17
                        obtain ⟨y130, hy130⟩ : ∃ y_ : List Int, y_ = (x8_2 ++ [x10_3]) := ⟨_, rfl⟩
                        replace H : (ring_Sum.l1 k3 l1 y130 a0 (wrap64 (x28_2 + 1))) = some (r1, r2) := by first | (rw [hy130]; with_reducible exact H) | (have H2_ := (Option.bind_some _ _).symm.trans H; rw [hy130]; with_reducible exact H2_) | (have H2_ := (Option.bind_some _ _).symm.trans H; with_reducible exact H2_) | with_reducible exact H | (rw [hy130]; exact H) | exact H
                        have Ny130 := Aside0.mk hy130
                        clear hy130
                        have H' := Aside0.mk H
                        clear H
                        go_wp2_with (first | ((with_reducible refine gate_builtin (b := .append) (xs := #[.tmp 44, .tmp 46]) rfl ?_); at_builtin; refine Kd.R_append (Kd.int .u32) (w0 := w) w.heap.size rfl (.tmp 44) (.tmp 46) 22 28 (.int .u32 0) 4 rfl Try.underlying22 info28 rfl (by decide) (by omega) u8 x8_2 x10_3 [.int .u32 x10_3] (fun _ => True) (fun _ => False) rfl rfl ?aP (fun _ hk => hk.elim) ?aF ?aO ?aB ?aS ?aL ?_; (case aP => exact rfl); (case aB => exact (by repeat (first | (with_reducible first | exact HB.out | apply below_alloc | apply pw_below_drewN | apply below_drew1) | exact HB.out))); (case aF => exact (fun _ _ => trivial)); (case aO => exact (by (with_reducible repeat (first | apply Kd.R_alloc | apply Kd.R_drewN | apply Kd.R_drew)); exact HO_8.out)); (case aS => exact (below_size (by repeat (first | (with_reducible first | exact HB.out | apply below_alloc | apply pw_below_drewN | apply below_drew1) | exact HB.out)))); (case aL => have := LMc17.out; omega); intro v131 w18 ho hb hg hat; rw [← Ny130.out] at ho; have n0_ := Aside0.mk (hb); have n1_ := Aside0.mk (ho); clear HB; clear HO_8; have HB := n0_; have HO132 := n1_; clear n0_ n1_; clear ho hb hg hat))
                        go_roundg k3
                        case measure => have := HK1.out; have := HK2.out; have := HK3.out; omega
                        case rel => exact ⟨(y130), (wrap64 (x28_2 + 1)), (by first | rfl | (simp; done) | (simp [*]; done)), H', ⟨by have := HK1.out; have := HK2.out; have := HK3.out; omega⟩, ⟨by (with_reducible repeat (first | apply Kd.R_alloc | apply Kd.R_drewN | apply Kd.R_drew)); exact HO132.out⟩, ⟨by repeat (first | (with_reducible first | exact HB.out | apply below_alloc | apply pw_below_drewN | apply below_drew1) | exact HB.out)⟩⟩
                      · rw [if_neg c17] at H
                        exact absurd H (by simp)
              · rw [if_neg c10] at H
                have c10b0 : decide (x28_2 < a0) = false := decide_eq_false c10
                clear c10
                simp only [Option.some.injEq, Prod.mk.injEq] at H
                obtain ⟨rfl, rfl⟩ := H
                go_wp2
                go_ret2
                exact ⟨_, by first | rfl | (simp [errW_none, errW_some] <;> rfl) | (simp [*, errW_none, errW_some] <;> rfl), by (with_reducible repeat (first | apply Kd.R_alloc | apply Kd.R_drewN | apply Kd.R_drew)); exact HO_8.out, by repeat (first | (with_reducible first | exact HB.out | apply below_alloc | apply pw_below_drewN | apply below_drew1) | exact HB.out)⟩

/-! ### offertoryref01_Cells: function 11 -/
def offertoryref01_Cells.l0 : Nat → List Int → List Int → Int → Option (Bool)
  | 0, _, _, _ => none
  | k + 1, x0, x1, x5 => if x5 < (x0.length : Int) then (if 0 ≤ x5 then (if x5 < (x1.length : Int) then (if (rd x0 x5) = (rd x1 x5) then (offertoryref01_Cells.l0 k x0 x1 (wrap64 (x5 + 1))) else (some false)) else (none)) else (none)) else (some true)
def offertoryref01_Cells.f (k : Nat) (l0 : List Int) (l1 : List Int) : Option (Bool) := if (l0.length : Int) = (l1.length : Int) then (offertoryref01_Cells.l0 k l0 l1 0) else (some false)
theorem offertoryref01_Cells.mono_l : ∀ k, (∀ y0 y1 y2, LeO (offertoryref01_Cells.l0 k y0 y1 y2) (offertoryref01_Cells.l0 (k + 1) y0 y1 y2))
  | 0 => fun _ _ _ r h => by simp [offertoryref01_Cells.l0] at h
  | k + 1 => by
    have ih0 := offertoryref01_Cells.mono_l k
    · intro y0 y1 y2
      unfold offertoryref01_Cells.l0
      repeat' first
      | (with_reducible exact ih0 _ _ _)
      | (with_reducible exact LeO.refl _)
      | (with_reducible exact LeO.none _)
      | (with_reducible refine LeO.ite ?_ ?_)
      | (with_reducible refine LeO.bind ?_ (fun _ => ?_))
      | exact ih0 _ _ _
      | exact LeO.none _
      | refine LeO.ite ?_ ?_
      | refine LeO.bind ?_ (fun _ => ?_)
theorem offertoryref01_Cells.mono : ∀ a0 a1 k, LeO (offertoryref01_Cells.f k a0 a1) (offertoryref01_Cells.f (k + 1) a0 a1) := by
  intro a0 a1 k
  have ih0 := offertoryref01_Cells.mono_l k
  unfold offertoryref01_Cells.f
  repeat' first
      | (with_reducible exact ih0 _ _ _)
      | (with_reducible exact LeO.refl _)
      | (with_reducible exact LeO.none _)
      | (with_reducible refine LeO.ite ?_ ?_)
      | (with_reducible refine LeO.bind ?_ (fun _ => ?_))
      | exact ih0 _ _ _
      | exact LeO.none _
      | refine LeO.ite ?_ ?_
      | refine LeO.bind ?_ (fun _ => ?_)
set_option maxHeartbeats 8000000 in
set_option maxRecDepth 100000 in
theorem offertoryref01_Cells.calls (k : Nat) (A0 : Option Addr) (c0 : Nat) (l0 : List Int) (A1 : Option Addr) (c1 : Nat) (l1 : List Int) (r : Bool) (w : World) (hr0 : Kd.C (Kd.int .u32) w A0 l0.length l0) (hc0 : l0.length ≤ c0) (hr1 : Kd.C (Kd.int .u32) w A1 l1.length l1) (hc1 : l1.length ≤ c1) (h : offertoryref01_Cells.f k l0 l1 = some r) :
    Calls Try.prog 11 #[.slice A0 l0.length c0, .slice A1 l1.length c1] w fun e w' => e = .returned (.bool r) ∧ Drawn0 w w' := by
  have HR0 := Aside0.mk hr0
  have HC0 := Aside0.mk hc0
  clear hr0 hc0
  have HR1 := Aside0.mk hr1
  have HC1 := Aside0.mk hc1
  clear hr1 hc1
  have H : (if (l0.length : Int) = (l1.length : Int) then (offertoryref01_Cells.l0 k l0 l1 0) else (some false)) = some r := h
  clear h
  by_cases c3 : (l0.length : Int) = (l1.length : Int)
  · rw [if_pos c3] at H
    have c3b0 : ((l0.length : Int) == (l1.length : Int)) = true := beq_iff_eq.mpr c3
    have c3b1 : ((l0.length : Int) != (l1.length : Int)) = false := bne_eq_false_iff_eq.mpr c3
    have c3b2 : (l0.length == l1.length) = true := by first | simpa using c3 | (simp at c3 ⊢; omega)
    clear c3
    have H' := Aside0.mk H
    clear H
    go_enter Try.func11, Try.ntmps11
    go_wp2
    repeat (go_quiet (fail); try go_wp2)
    go_loopg [5] k (fun kq v5 w' => ∃ (x5_1 : Int), v5 = .int .i64 x5_1 ∧ Aside0 (offertoryref01_Cells.l0 kq l0 l1 x5_1 = some r) ∧ Aside0 (kq ≤ k) ∧ Drawn0 w w')
    case atStart => exact ⟨(0), (by first | rfl | (simp; done) | (simp [*]; done)), H', ⟨Nat.le_refl _⟩, by repeat (first | exact Drawn0.refl _ | apply Drawn0.step)⟩
    case round =>
      clear H'
      try clear c1
      try clear p2
      try clear c3
      try clear c3b0
      try clear c3b1
      try clear c3b2
      obtain ⟨x5_1, rfl, HA, HK1, ⟨m1, rfl⟩⟩ := hrel
      cases gk with
      | zero => exact absurd HA.out (by simp [offertoryref01_Cells.l0])
      | succ k1 =>
        have H := HA.out
        clear HA
        simp only [offertoryref01_Cells.l0] at H
        by_cases c4 : x5_1 < (l0.length : Int)
        · rw [if_pos c4] at H
          have c4b0 : decide (x5_1 < (l0.length : Int)) = true := decide_eq_true c4
          clear c4
          by_cases c5 : 0 ≤ x5_1
          · rw [if_pos c5] at H
            have c5b0 : decide (0 ≤ x5_1) = true := decide_eq_true c5
            clear c5
            by_cases c6 : x5_1 < (l1.length : Int)
            · rw [if_pos c6] at H
              have c6b0 : decide (x5_1 < (l1.length : Int)) = true := decide_eq_true c6
              clear c6
              by_cases c7 : (rd l0 x5_1) = (rd l1 x5_1)
              · rw [if_pos c7] at H
                have c7b0 : ((rd l0 x5_1) == (rd l1 x5_1)) = true := beq_iff_eq.mpr c7
                have c7b1 : ((rd l0 x5_1) != (rd l1 x5_1)) = false := bne_eq_false_iff_eq.mpr c7
                clear c7
                have H' := Aside0.mk H
                clear H
                have p133 : 0 ≤ (x5_1 : Int) := of_decide_eq_true (by first | (with_reducible assumption) | assumption)
                have q133 : x5_1 < (l0.length : Int) := of_decide_eq_true (by first | (with_reducible assumption) | assumption)
                obtain ⟨ad133, e133, hx133_0⟩ := Kd.at_int HR0.out x5_1 p133 q133
                cases e133
                replace p133 := eq_true p133
                replace q133 := eq_true q133
                have p134 : 0 ≤ (x5_1 : Int) := of_decide_eq_true (by first | (with_reducible assumption) | assumption)
                have q134 : x5_1 < (l1.length : Int) := of_decide_eq_true (by first | (with_reducible assumption) | assumption)
                obtain ⟨ad134, e134, hx134_0⟩ := Kd.at_int HR1.out x5_1 p134 q134
                cases e134
                replace p134 := eq_true p134
                replace q134 := eq_true q134
                go_wp2
                repeat (go_quiet (fail); try go_wp2)
                go_roundg k1
                case measure => have := HK1.out; omega
                case rel => exact ⟨(wrap64 (x5_1 + 1)), (by first | rfl | (simp; done) | (simp [*]; done)), H', ⟨by have := HK1.out; omega⟩, by repeat (first | exact Drawn0.refl _ | apply Drawn0.step)⟩
              · rw [if_neg c7] at H
                have c7b0 : ((rd l0 x5_1) == (rd l1 x5_1)) = false := beq_eq_false_iff_ne.mpr c7
                have c7b1 : ((rd l0 x5_1) != (rd l1 x5_1)) = true := bne_iff_ne.mpr c7
                obtain rfl := Option.some.inj H
                have p133 : 0 ≤ (x5_1 : Int) := of_decide_eq_true (by first | (with_reducible assumption) | assumption)
                have q133 : x5_1 < (l0.length : Int) := of_decide_eq_true (by first | (with_reducible assumption) | assumption)
                obtain ⟨ad133, e133, hx133_0⟩ := Kd.at_int HR0.out x5_1 p133 q133
                cases e133
                replace p133 := eq_true p133
                replace q133 := eq_true q133
                have p134 : 0 ≤ (x5_1 : Int) := of_decide_eq_true (by first | (with_reducible assumption) | assumption)
                have q134 : x5_1 < (l1.length : Int) := of_decide_eq_true (by first | (with_reducible assumption) | assumption)
                obtain ⟨ad134, e134, hx134_0⟩ := Kd.at_int HR1.out x5_1 p134 q134
                cases e134
                replace p134 := eq_true p134
                replace q134 := eq_true q134
                go_wp2
                repeat (go_quiet (fail); try go_wp2)
                go_ret
                exact ⟨by first | rfl | (simp; done) | (simp [*]; done), by repeat (first | exact Drawn0.refl _ | apply Drawn0.step)⟩
            · rw [if_neg c6] at H
              exact absurd H (by simp)
          · rw [if_neg c5] at H
            exact absurd H (by simp)
        · rw [if_neg c4] at H
          have c4b0 : decide (x5_1 < (l0.length : Int)) = false := decide_eq_false c4
          clear c4
          obtain rfl := Option.some.inj H
          go_wp2
          repeat (go_quiet (fail); try go_wp2)
          go_ret
          exact ⟨by first | rfl | (simp; done) | (simp [*]; done), by repeat (first | exact Drawn0.refl _ | apply Drawn0.step)⟩
  · rw [if_neg c3] at H
    have c3b0 : ((l0.length : Int) == (l1.length : Int)) = false := beq_eq_false_iff_ne.mpr c3
    have c3b1 : ((l0.length : Int) != (l1.length : Int)) = true := bne_iff_ne.mpr c3
    have c3b2 : (l0.length == l1.length) = false := by first | simpa using c3 | (simp at c3 ⊢; omega)
    obtain rfl := Option.some.inj H
    go_enter Try.func11, Try.ntmps11
    go_wp2
    repeat (go_quiet (fail); try go_wp2)
    go_ret
    exact ⟨by first | rfl | (simp; done) | (simp [*]; done), by repeat (first | exact Drawn0.refl _ | apply Drawn0.step)⟩

/-! ### offertorylaw02_awake: function 9 -/
theorem ringLit (W : World) (x y : Int) (g : Nat) (hg : W.heap.size = g) : (Kd.int .u32).C (W.alloc (.cells #[.int .u32 x, .int .u32 y] 28)) (some ⟨g, 0, none⟩) ([x, y] : List Int).length [x, y] := by
  subst hg
  refine ⟨rfl, by simp, fun _ => ⟨_, rfl, ?_⟩⟩
  intro j p hp
  match j, hp with
  | 0, hp =>
    cases hp
    refine ⟨[.int .u32 x], rfl, rfl, ?_⟩
    intro i u hu
    match i, hu with
    | 0, hu => cases hu; exact (blk_cell (blk_new W _) 0).trans rfl
  | 1, hp =>
    cases hp
    refine ⟨[.int .u32 y], rfl, rfl, ?_⟩
    intro i u hu
    match i, hu with
    | 0, hu => cases hu; exact (blk_cell (blk_new W _) 1).trans rfl
theorem ringList2 (W : World) (A B : Option Addr) (ca cb : Nat) (la lb : List Int) (t : Nat) (hA : (Kd.int .u32).C W A la.length la) (ha : la.length ≤ ca) (hB : (Kd.int .u32).C W B lb.length lb) (hb : lb.length ≤ cb) :
    (Kd.slice 28 (Kd.int .u32)).C (W.alloc (.cells #[.slice A la.length ca, .slice B lb.length cb] t)) (some ⟨W.heap.size, 0, none⟩) ([la, lb] : List (List Int)).length [la, lb] := by
  have hbl : Below W.heap.size W (W.alloc (.cells #[.slice A la.length ca, .slice B lb.length cb] t)) := below_alloc (Below.refl _ _) _
  refine ⟨rfl, by simp, fun _ => ⟨_, rfl, ?_⟩⟩
  intro j p hp
  match j, hp with
  | 0, hp =>
    cases hp
    refine ⟨[.slice A la.length ca], rfl, ⟨A, ca, rfl, ha, Kd.C_below hA hbl⟩, ?_⟩
    intro i u hu
    match i, hu with
    | 0, hu => cases hu; exact (blk_cell (blk_new W _) 0).trans rfl
  | 1, hp =>
    cases hp
    refine ⟨[.slice B lb.length cb], rfl, ⟨B, cb, rfl, hb, Kd.C_below hB hbl⟩, ?_⟩
    intro i u hu
    match i, hu with
    | 0, hu => cases hu; exact (blk_cell (blk_new W _) 1).trans rfl
theorem ringList1 (W : World) (A : Option Addr) (ca : Nat) (la : List Int) (t : Nat) (hA : (Kd.int .u32).C W A la.length la) (ha : la.length ≤ ca) :
    (Kd.slice 28 (Kd.int .u32)).C (W.alloc (.cells #[.slice A la.length ca] t)) (some ⟨W.heap.size, 0, none⟩) ([la] : List (List Int)).length [la] := by
  have hbl : Below W.heap.size W (W.alloc (.cells #[.slice A la.length ca] t)) := below_alloc (Below.refl _ _) _
  refine ⟨rfl, by simp, fun _ => ⟨_, rfl, ?_⟩⟩
  intro j p hp
  match j, hp with
  | 0, hp =>
    cases hp
    refine ⟨[.slice A la.length ca], rfl, ⟨A, ca, rfl, ha, Kd.C_below hA hbl⟩, ?_⟩
    intro i u hu
    match i, hu with
    | 0, hu => cases hu; exact (blk_cell (blk_new W _) 0).trans rfl
set_option maxHeartbeats 1600000 in
theorem offertorylaw02_awake.calls0 (w : World) :
    Calls Try.prog 9 #[] w fun e w' => e = .returned (.bool true) ∧ Below w.heap.size w w' := by
  go_enter Try.func9, Try.ntmps9
  go_wp2_with fail
  go_at_call 7
  have L1 : (Kd.int .u32).C ((w.alloc (.cells #[.int .u32 1, .int .u32 4294967295] 28)).alloc (.cells #[.int .u32 2, .int .u32 3] 28)) (some ⟨w.heap.size, 0, none⟩) ([1, 4294967295] : List Int).length [1, 4294967295] := Kd.C_below (ringLit w 1 4294967295 _ rfl) (below_alloc (Below.refl _ _) _)
  have L2 : (Kd.int .u32).C ((w.alloc (.cells #[.int .u32 1, .int .u32 4294967295] 28)).alloc (.cells #[.int .u32 2, .int .u32 3] 28)) (some ⟨w.heap.size + 1, 0, none⟩) ([2, 3] : List Int).length [2, 3] := ringLit _ 2 3 _ (by show (w.heap.push _).size = _; simp)
  have F1 : ring_Add.f 9 [1, 4294967295] [2, 3] = some ([3, 2], 0) := by decide +kernel
  have G1 := ring_Add.calls 9 (some ⟨w.heap.size, 0, none⟩) 2 [1, 4294967295] (some ⟨w.heap.size + 1, 0, none⟩) 2 [2, 3] [3, 2] 0 _ L1 (Nat.le_refl 2) L2 (Nat.le_refl 2) F1
  clear L1 L2 F1
  simp only [List.length_cons, List.length_nil, Nat.zero_add, Nat.reduceAdd] at G1
  refine G1.mono ?_
  clear G1
  rintro e w1 ⟨v1, rfl, hR1, hb1⟩
  obtain ⟨A1, c1, rfl, hc1, hC1⟩ := Kd.R_reads hR1
  have B1 := Aside0.mk (below_step (below_alloc (below_alloc (Below.refl w.heap.size w) _) _) hb1)
  clear hR1 hb1
  go_wp2_with fail
  go_at_call 8
  have F2 : ring_Sub.f 9 [3, 2] [3, 3] = some ([0, 4294967295], 0) := by decide +kernel
  have G2 := ring_Sub.calls 9 A1 c1 [3, 2] (some ⟨w1.heap.size, 0, none⟩) 2 [3, 3] [0, 4294967295] 0 _ (Kd.C_below hC1 (below_alloc (Below.refl _ _) _)) hc1 (ringLit w1 3 3 _ rfl) (Nat.le_refl 2) F2
  clear F2
  simp only [List.length_cons, List.length_nil, Nat.zero_add, Nat.reduceAdd] at G2
  refine G2.mono ?_
  clear G2
  rintro e w2 ⟨v2, rfl, hR2, hb2⟩
  obtain ⟨A2, c2, rfl, hc2, hC2⟩ := Kd.R_reads hR2
  have B2 := Aside0.mk (below_step (below_alloc B1.out _) hb2)
  replace hC1 := Kd.C_below hC1 (below_step (below_alloc (Below.refl _ _) _) hb2)
  clear hR2 hb2 B1
  go_wp2_with fail
  go_at_call 10
  have F3 : ring_Sum.f 20 2 [[3, 2], [0, 4294967295]] = some ([3, 1], 0) := by decide +kernel
  have G3 := ring_Sum.calls 20 2 (some ⟨w2.heap.size, 0, none⟩) 2 [[3, 2], [0, 4294967295]] [3, 1] 0 _ (ringList2 w2 A1 A2 c1 c2 [3, 2] [0, 4294967295] 22 hC1 hc1 hC2 hc2) (Nat.le_refl 2) F3
  clear F3
  simp only [List.length_cons, List.length_nil, Nat.zero_add, Nat.reduceAdd] at G3
  refine G3.mono ?_
  clear G3
  rintro e w3 ⟨v3, rfl, hR3, hb3⟩
  obtain ⟨A3, c3, rfl, hc3, hC3⟩ := Kd.R_reads hR3
  have B3 := Aside0.mk (below_step (below_alloc B2.out _) hb3)
  replace hC1 := Kd.C_below hC1 (below_step (below_alloc (Below.refl _ _) _) hb3)
  replace hC2 := Kd.C_below hC2 (below_step (below_alloc (Below.refl _ _) _) hb3)
  clear hR3 hb3 B2
  go_wp2_with fail
  go_at_call 10
  have F4 : ring_Sum.f 20 1 [[3, 2]] = some ([], 1) := by decide +kernel
  have G4 := ring_Sum.calls 20 1 (some ⟨w3.heap.size, 0, none⟩) 1 [[3, 2]] [] 1 _ (ringList1 w3 A1 c1 [3, 2] 22 hC1 hc1) (Nat.le_refl 1) F4
  clear F4
  simp only [List.length_cons, List.length_nil, Nat.zero_add, Nat.reduceAdd] at G4
  refine G4.mono ?_
  clear G4
  rintro e w4 ⟨v4, rfl, hR4, hb4⟩
  have B4 := Aside0.mk (below_step (below_alloc B3.out _) hb4)
  replace hC1 := Kd.C_below hC1 (below_step (below_alloc (Below.refl _ _) _) hb4)
  replace hC2 := Kd.C_below hC2 (below_step (below_alloc (Below.refl _ _) _) hb4)
  replace hC3 := Kd.C_below hC3 (below_step (below_alloc (Below.refl _ _) _) hb4)
  clear hR4 hb4 B3
  go_wp2_with fail
  go_at_call 11
  have F5 : offertoryref01_Cells.f 9 [3, 2] [3, 2] = some true := by decide +kernel
  have G5 := offertoryref01_Cells.calls 9 A1 c1 [3, 2] (some ⟨w4.heap.size, 0, none⟩) 2 [3, 2] true _ (Kd.C_below hC1 (below_alloc (Below.refl _ _) _)) hc1 (ringLit w4 3 2 _ rfl) (Nat.le_refl 2) F5
  clear F5
  simp only [List.length_cons, List.length_nil, Nat.zero_add, Nat.reduceAdd] at G5
  refine G5.mono ?_
  clear G5
  rintro e w5 ⟨rfl, hd5⟩
  have hb5 := hd5.below
  have B5 := Aside0.mk (below_step (below_alloc B4.out _) hb5)
  replace hC2 := Kd.C_below hC2 (below_step (below_alloc (Below.refl _ _) _) hb5)
  replace hC3 := Kd.C_below hC3 (below_step (below_alloc (Below.refl _ _) _) hb5)
  clear hb5 hd5 B4 hC1
  go_wp2_with fail
  go_at_call 11
  have F6 : offertoryref01_Cells.f 9 [0, 4294967295] [0, 4294967295] = some true := by decide +kernel
  have G6 := offertoryref01_Cells.calls 9 A2 c2 [0, 4294967295] (some ⟨w5.heap.size, 0, none⟩) 2 [0, 4294967295] true _ (Kd.C_below hC2 (below_alloc (Below.refl _ _) _)) hc2 (ringLit w5 0 4294967295 _ rfl) (Nat.le_refl 2) F6
  clear F6
  simp only [List.length_cons, List.length_nil, Nat.zero_add, Nat.reduceAdd] at G6
  refine G6.mono ?_
  clear G6
  rintro e w6 ⟨rfl, hd6⟩
  have hb6 := hd6.below
  have B6 := Aside0.mk (below_step (below_alloc B5.out _) hb6)
  replace hC3 := Kd.C_below hC3 (below_step (below_alloc (Below.refl _ _) _) hb6)
  clear hb6 hd6 B5 hC2
  go_wp2_with fail
  go_at_call 11
  have F7 : offertoryref01_Cells.f 9 [3, 1] [3, 1] = some true := by decide +kernel
  have G7 := offertoryref01_Cells.calls 9 A3 c3 [3, 1] (some ⟨w6.heap.size, 0, none⟩) 2 [3, 1] true _ (Kd.C_below hC3 (below_alloc (Below.refl _ _) _)) hc3 (ringLit w6 3 1 _ rfl) (Nat.le_refl 2) F7
  clear F7
  simp only [List.length_cons, List.length_nil, Nat.zero_add, Nat.reduceAdd] at G7
  refine G7.mono ?_
  clear G7
  rintro e w7 ⟨rfl, hd7⟩
  have hb7 := hd7.below
  have B7 := Aside0.mk (below_step (below_alloc B6.out _) hb7)
  clear hb7 hd7 B6 hC3
  go_wp2
  refine bodyPost_ret (v := .bool true) (by simp [results, Try.results9, go_sem]) rfl ⟨rfl, B7.out⟩
def offertorylaw02_awake.f : Option Bool := some true
theorem offertorylaw02_awake.calls (r : Bool) (w : World) (h : offertorylaw02_awake.f = some r) :
    Calls Try.prog 9 #[] w fun e w' => e = .returned (.bool r) ∧ Below w.heap.size w w' := by
  obtain rfl : true = r := Option.some.inj h
  exact offertorylaw02_awake.calls0 w

end Go.Proofs.Ythlbolibaheclaa.PAll
